/- The faults of a message, the program's way and the reference's, in one closed form. -/
import Derived.Test.YtnbcpiaajckoaaaEntries
import Derived.Test.YtnbcpiaajckoaaaPx5
import Derived.Test.YtnbcpiaajckoaaaPx9
namespace Go.Proofs.Ytnbcpiaajckoaaa.Pure
open Go.RowKit Go.Proofs.Ytnbcpiaajckoaaa.P Go.Proofs.Ytnbcpiaajckoaaa.Mth Go.Proofs.YtnbcpiaajckoaaaW.PrintWords
set_option linter.unusedSimpArgs false
set_option linter.unusedVariables false

theorem bqF {x c : Int} (h : ¬ x = c) : (x == c) = false := beq_eq_false_iff_ne.mpr h
def inB (a b c : Int) : Bool := decide (b ≤ a ∧ a ≤ c)
def askB (k : Int) : Bool := decide (k = 1 ∨ k = 3 ∨ k = 5)
def posB (k term li lt : Int) : Bool :=
  if askB k then inB li 0 4096 && (inB lt 0 term && ((li == 0) == (lt == 0)))
  else (lt == 0) && (if k = 6 then inB li 0 4096 else li == 0)
def comB (k com : Int) : Bool := if k = 5 then inB com 0 4096 else com == 0
def okB (k ok : Int) : Bool := ok == 0 || (ok == 1 && !askB k)
def hintB (k ok hint : Int) : Bool := hint == 0 || (decide (k = 6) && ((ok == 0) && inB hint 0 4096))
def entsB (k term li lt : Int) (es : List S58) : Bool :=
  if k = 5 then decide ((es.length : Int) ≤ 32) && (decide (wrap64 (li + (es.length : Int)) ≤ 4096) && rising es lt term) else ((es.length : Int) == 0)
def srvB (f t : Int) : Bool := inB f 1 7 && (inB t 1 7 && f != t)
/-- The number of a message's first broken rule. -/
def msgFault (a0 a1 a2 a3 a4 a5 a6 a7 a8 : Int) (es : List S58) : Int :=
  fb [inB a0 1 6, srvB a1 a2, inB a3 1 1073741824, posB a0 a3 a4 a5, comB a0 a6 && (okB a0 a7 && hintB a0 a7 a8), entsB a0 a3 a4 a5 es] 0

section impl
variable (a0 a1 a2 a3 a4 a5 a6 a7 a8 : Int) (es : List S58)
theorem impl_j6 (k : Nat) (hk : 6 < k) (x4 x5 x6 : Bool) : impl_MsgFault.j6 (k + 1) x4 x5 x6 a0 a1 a2 a3 a4 a5 a6 a7 a8 es = some (fb [inB a0 1 6, srvB a1 a2, inB a3 1 1073741824, x4, x5, x6] 0) := by
  simp only [impl_MsgFault.j6, within_eq, Option.bind_some, srvB, inB]
  by_cases h1 : 1 ≤ a1 ∧ a1 ≤ 7
  · by_cases h2 : 1 ≤ a2 ∧ a2 ≤ 7
    · rw [if_pos (decide_eq_true h1), if_pos (decide_eq_true h2), firstBroken_eq _ (by simp) (by simp; omega), decide_eq_true h1, decide_eq_true h2]
      rfl
    · rw [if_pos (decide_eq_true h1), if_neg (by simp [h2]), firstBroken_eq _ (by simp) (by simp; omega), decide_eq_true h1, decide_eq_false h2]
      rfl
  · rw [if_neg (by simp [h1]), firstBroken_eq _ (by simp) (by simp; omega), decide_eq_false h1]
    rfl
theorem impl_j5 (k : Nat) (hk : es.length + 12 < k) (hl : es.length ≤ 1048576) (x4 x5 : Bool) : impl_MsgFault.j5 (k + 2) x4 x5 a0 a1 a2 a3 a4 a5 a6 a7 a8 es = some (fb [inB a0 1 6, srvB a1 a2, inB a3 1 1073741824, x4, x5, entsB a0 a3 a4 a5 es] 0) := by
  simp only [impl_MsgFault.j5, impl_j6 _ _ _ _ _ _ _ _ _ _ k (by omega)]
  rw [orderly_eq es hl a5 a3 (by omega)]
  unfold entsB
  by_cases h5 : a0 = 5
  · by_cases h1 : (es.length : Int) ≤ 32
    · by_cases h2 : wrap64 (a4 + (es.length : Int)) ≤ 4096 <;> simp only [h5, h1, h2, if_true, if_false, Option.bind_some, decide_true, decide_false, Bool.true_and, Bool.false_and]
    · simp only [h5, h1, if_true, if_false, decide_false, Bool.false_and]
  · simp only [h5, if_false]
theorem impl_j4 (k : Nat) (hk : es.length + 12 < k) (hl : es.length ≤ 1048576) (x4 x5 : Bool) : impl_MsgFault.j4 (k + 3) x4 x5 a0 a1 a2 a3 a4 a5 a6 a7 a8 es = some (fb [inB a0 1 6, srvB a1 a2, inB a3 1 1073741824, x4, x5 && hintB a0 a7 a8, entsB a0 a3 a4 a5 es] 0) := by
  simp only [impl_MsgFault.j4, impl_j5 _ _ _ _ _ _ _ _ _ _ k hk hl, within_eq, Option.bind_some]
  unfold hintB inB
  cases x5
  · rfl
  · by_cases h1 : a8 = 0
    · simp [h1]
    · by_cases h2 : a0 = 6
      · by_cases h3 : a7 = 0
        · simp [h1, h2, h3, bqF h1]
        · simp [h1, h2, h3, bqF h1, bqF h3]
      · simp [h1, h2, bqF h1]
theorem impl_j3 (k : Nat) (hk : es.length + 12 < k) (hl : es.length ≤ 1048576) (x4 x5 : Bool) : impl_MsgFault.j3 (k + 4) (askB a0) x4 x5 a0 a1 a2 a3 a4 a5 a6 a7 a8 es = some (fb [inB a0 1 6, srvB a1 a2, inB a3 1 1073741824, x4, x5 && (okB a0 a7 && hintB a0 a7 a8), entsB a0 a3 a4 a5 es] 0) := by
  simp only [impl_MsgFault.j3, impl_j4 _ _ _ _ _ _ _ _ _ _ k hk hl]
  unfold okB
  cases x5
  · rfl
  · by_cases h1 : a7 = 0
    · simp [h1]
    · by_cases h2 : a7 = 1
      · simp [h1, h2]
      · simp [h1, h2, bqF h1, bqF h2]
theorem impl_j2 (k : Nat) (hk : es.length + 12 < k) (hl : es.length ≤ 1048576) (x4 : Bool) : impl_MsgFault.j2 (k + 5) (askB a0) x4 a0 a1 a2 a3 a4 a5 a6 a7 a8 es = some (fb [inB a0 1 6, srvB a1 a2, inB a3 1 1073741824, x4, comB a0 a6 && (okB a0 a7 && hintB a0 a7 a8), entsB a0 a3 a4 a5 es] 0) := by
  simp only [impl_MsgFault.j2, impl_j3 _ _ _ _ _ _ _ _ _ _ k hk hl, within_eq, Option.bind_some]
  unfold comB inB
  by_cases h : a0 = 5
  · rw [if_pos h, if_pos h]
  · rw [if_neg h, if_neg h]
theorem impl_j1 (k : Nat) (hk : es.length + 12 < k) (hl : es.length ≤ 1048576) (x4 : Bool) (hx : x4 = ((a5 == 0) && (a4 == 0))) : impl_MsgFault.j1 (k + 6) (askB a0) x4 a0 a1 a2 a3 a4 a5 a6 a7 a8 es = some (msgFault a0 a1 a2 a3 a4 a5 a6 a7 a8 es) := by
  simp only [impl_MsgFault.j1, impl_j2 _ _ _ _ _ _ _ _ _ _ k hk hl, within_eq, Option.bind_some]
  unfold msgFault posB inB
  cases ha : askB a0
  · by_cases h6 : a0 = 6
    · by_cases h1 : 0 ≤ a4 ∧ a4 ≤ 4096 <;> simp [h6, h1]
    · simp [h6, hx]
  · by_cases h1 : 0 ≤ a4 ∧ a4 ≤ 4096
    · by_cases h2 : 0 ≤ a5 ∧ a5 ≤ a3 <;> simp [h1, h2]
    · simp [h1]
theorem impl_MsgFault_eq (k : Nat) (hk : es.length + 19 < k) (hl : es.length ≤ 1048576) : impl_MsgFault.f k a0 a1 a2 a3 a4 a5 a6 a7 a8 es = some (msgFault a0 a1 a2 a3 a4 a5 a6 a7 a8 es) := by
  obtain ⟨k, rfl⟩ : ∃ m, k = m + 7 := ⟨k - 7, by omega⟩
  have h0 : impl_MsgFault.j0 (k + 7) (askB a0) a0 a1 a2 a3 a4 a5 a6 a7 a8 es = some (msgFault a0 a1 a2 a3 a4 a5 a6 a7 a8 es) := by
    simp only [impl_MsgFault.j0]
    by_cases h : a4 = 0
    · rw [if_pos h]
      exact impl_j1 _ _ _ _ _ _ _ _ _ _ k (by omega) hl _ (by simp [h])
    · rw [if_neg h]
      exact impl_j1 _ _ _ _ _ _ _ _ _ _ k (by omega) hl _ (by simp [bqF h])
  unfold impl_MsgFault.f
  rw [← h0]
  unfold askB
  by_cases h1 : a0 = 1
  · simp [h1]
  · by_cases h3 : a0 = 3
    · simp [h3]
    · by_cases h5 : a0 = 5
      · simp [h5]
      · simp [h1, h3, h5, bqF h5]
end impl

section spec
variable (a0 a1 a2 a3 a4 a5 a6 a7 a8 : Int) (es : List S58)
theorem spec_j5 (k : Nat) (hk : 3 * es.length + 12 < k) (hl : es.length ≤ 1048576) (b : Bool) : spec_MsgFault.j5 (k + 1) a0 b a0 a1 a2 a3 a4 a5 a6 a7 a8 es = some (fb [true, true, true, true, !b, entsB a0 a3 a4 a5 es] 0) := by
  simp only [spec_MsgFault.j5, rising_eq es hl a5 a3 hk, Option.bind_some]
  unfold entsB
  cases b
  · by_cases h5 : a0 = 5
    · by_cases h1 : (es.length : Int) ≤ 32
      · have h1' : ¬ ((es.length : Int) > 32) := by omega
        by_cases h2 : wrap64 (a4 + (es.length : Int)) ≤ 4096
        · have h2' : ¬ (wrap64 (a4 + (es.length : Int)) > 4096) := by omega
          simp only [h5, h1, h2, h1', h2', if_true, if_false, decide_true, Bool.true_and, Bool.false_eq_true]
          cases rising es a5 a3 <;> rfl
        · have h2' : wrap64 (a4 + (es.length : Int)) > 4096 := by omega
          simp only [h5, h1, h2, h1', h2', if_true, if_false, decide_true, decide_false, Bool.true_and, Bool.false_and, Bool.false_eq_true]
          rfl
      · have h1' : (es.length : Int) > 32 := by omega
        simp only [h5, h1, h1', if_true, if_false, decide_true, decide_false, Bool.true_and, Bool.false_and, Bool.false_eq_true]
        rfl
    · by_cases h0 : (es.length : Int) = 0
      · simp only [h5, h0, if_true, if_false, Bool.false_eq_true]
        rfl
      · have h0' : ((es.length : Int) == 0) = false := by simpa using h0
        simp only [h5, h0, h0', if_true, if_false, Bool.false_eq_true]
        rfl
  · rfl
theorem spec_j4 (k : Nat) (hk : 3 * es.length + 12 < k) (hl : es.length ≤ 1048576) (b : Bool) (hb : b = false → okB a0 a7 = true) : spec_MsgFault.j4 (k + 2) a0 b a0 a1 a2 a3 a4 a5 a6 a7 a8 es = some (fb [true, true, true, true, !b && hintB a0 a7 a8, entsB a0 a3 a4 a5 es] 0) := by
  simp only [spec_MsgFault.j4, spec_j5 _ _ _ _ _ _ _ _ _ _ k hk hl, l1in_eq, Option.bind_some]
  unfold hintB inB
  cases b
  · have h := hb rfl
    by_cases h8 : a8 = 0
    · simp [h8]
    · by_cases h6 : a0 = 6
      · by_cases h1 : a7 = 1
        · simp [h8, h6, h1, bqF h8]
        · have h0 : a7 = 0 := by
            unfold okB at h
            simp [bqF h1] at h
            exact h
          simp [h8, h6, h1, h0, bqF h8]
      · simp [h8, h6, bqF h8]
  · rfl
theorem spec_j3 (k : Nat) (hk : 3 * es.length + 12 < k) (hl : es.length ≤ 1048576) (b : Bool) : spec_MsgFault.j3 (k + 3) a0 (askB a0) b a0 a1 a2 a3 a4 a5 a6 a7 a8 es = some (fb [true, true, true, true, !b && (okB a0 a7 && hintB a0 a7 a8), entsB a0 a3 a4 a5 es] 0) := by
  have hj := fun b hb => spec_j4 a0 a1 a2 a3 a4 a5 a6 a7 a8 es k hk hl b hb
  cases b
  · have hs : spec_MsgFault.j3 (k + 3) a0 (askB a0) false a0 a1 a2 a3 a4 a5 a6 a7 a8 es = spec_MsgFault.j4 (k + 2) a0 (!okB a0 a7) a0 a1 a2 a3 a4 a5 a6 a7 a8 es := by
      simp only [spec_MsgFault.j3, l1in_eq, Option.bind_some]
      unfold okB
      cases ha : askB a0
      · have e : decide (0 ≤ a7 ∧ a7 ≤ 1) = (a7 == 0 || (a7 == 1 && !false)) := by
          by_cases h0 : a7 = 0
          · simp [h0]
          · by_cases h1 : a7 = 1
            · simp [h1]
            · have h2 : ¬ (0 ≤ a7 ∧ a7 ≤ 1) := by omega
              simp [bqF h0, bqF h1, h2]
        rw [e]
        rfl
      · by_cases h0 : a7 = 0
        · simp [h0]
        · simp [h0, bqF h0]
    rw [hs, hj _ (fun h => by simpa using h)]
    simp
  · rfl
theorem spec_j2 (k : Nat) (hk : 3 * es.length + 12 < k) (hl : es.length ≤ 1048576) : spec_MsgFault.j2 (k + 4) a0 (askB a0) a0 a1 a2 a3 a4 a5 a6 a7 a8 es = some (fb [true, true, true, true, comB a0 a6 && (okB a0 a7 && hintB a0 a7 a8), entsB a0 a3 a4 a5 es] 0) := by
  simp only [spec_MsgFault.j2, spec_j3 _ _ _ _ _ _ _ _ _ _ k hk hl, l1in_eq, Option.bind_some]
  unfold comB inB
  by_cases h : a0 = 5
  · rw [if_pos h, if_pos h]
    by_cases h1 : 0 ≤ a6 ∧ a6 ≤ 4096 <;> simp [h1]
  · rw [if_neg h, if_neg h]
    by_cases h1 : a6 = 0
    · simp [h1]
    · have e : (a6 != 0) = true := by simpa using h1
      simp [h1, e, bqF h1]
theorem spec_j1 (k : Nat) (hk : 3 * es.length + 12 < k) (hl : es.length ≤ 1048576) : spec_MsgFault.j1 (k + 5) a0 (askB a0) a0 a1 a2 a3 a4 a5 a6 a7 a8 es = some (fb [true, true, true, posB a0 a3 a4 a5, comB a0 a6 && (okB a0 a7 && hintB a0 a7 a8), entsB a0 a3 a4 a5 es] 0) := by
  simp only [spec_MsgFault.j1, spec_j2 _ _ _ _ _ _ _ _ _ _ k hk hl, l1in_eq, Option.bind_some]
  unfold posB inB
  have f4 : ∀ x y, fb [true, true, true, false, x, y] 0 = 4 := fun _ _ => rfl
  cases ha : askB a0
  · by_cases h5 : a5 = 0
    · by_cases h1 : a4 < 0
      · by_cases h6 : a0 = 6
        · simp [h5, h1, h6, f4, show ¬ (0 ≤ a4) by omega]
        · simp [h5, h1, h6, f4, show ¬ (a4 = 0) by omega, bqF (show ¬ (a4 = 0) by omega)]
      · by_cases h2 : a4 > 4096
        · by_cases h6 : a0 = 6
          · simp [h5, h1, h2, h6, f4, show ¬ (a4 ≤ 4096) by omega]
          · simp [h5, h1, h2, h6, f4, show ¬ (a4 = 0) by omega, bqF (show ¬ (a4 = 0) by omega)]
        · by_cases h6 : a0 = 6
          · simp [h5, h1, h2, h6, f4, show 0 ≤ a4 by omega, show a4 ≤ 4096 by omega]
          · by_cases h0 : a4 = 0
            · simp [h5, h1, h2, h6, h0, f4]
            · simp [h5, h1, h2, h6, h0, bqF h0, f4]
    · simp [h5, bqF h5, f4]
  · by_cases h1 : 0 ≤ a4 ∧ a4 ≤ 4096
    · by_cases h2 : 0 ≤ a5 ∧ a5 ≤ a3
      · cases h3 : ((a4 == 0) == (a5 == 0))
        · have h3' : ((a4 == 0) != (a5 == 0)) = true := by simp [bne, h3]
          simp [h1, h2, h3', f4]
        · have h3' : ((a4 == 0) != (a5 == 0)) = false := by simp [bne, h3]
          rw [h3']
          simp [h1, h2]
      · simp [h1, h2, f4]
    · simp [h1, f4]
theorem spec_MsgFault_eq (k : Nat) (hk : 3 * es.length + 19 < k) (hl : es.length ≤ 1048576) : spec_MsgFault.f k a0 a1 a2 a3 a4 a5 a6 a7 a8 es = some (msgFault a0 a1 a2 a3 a4 a5 a6 a7 a8 es) := by
  obtain ⟨k, rfl⟩ : ∃ m, k = m + 6 := ⟨k - 6, by omega⟩
  have hj : ∀ b, spec_MsgFault.j0 (k + 6) a0 b a0 a1 a2 a3 a4 a5 a6 a7 a8 es = some (fb [true, !b, inB a3 1 1073741824, posB a0 a3 a4 a5, comB a0 a6 && (okB a0 a7 && hintB a0 a7 a8), entsB a0 a3 a4 a5 es] 0) := by
    intro b
    cases b
    · have h1 := spec_j1 a0 a1 a2 a3 a4 a5 a6 a7 a8 es k (by omega) hl
      have hs : spec_MsgFault.j0 (k + 6) a0 false a0 a1 a2 a3 a4 a5 a6 a7 a8 es = if inB a3 1 1073741824 = true then spec_MsgFault.j1 (k + 5) a0 (askB a0) a0 a1 a2 a3 a4 a5 a6 a7 a8 es else some 3 := by
        simp only [spec_MsgFault.j0, l1in_eq, Option.bind_some]
        unfold inB askB
        by_cases h1 : a0 = 1
        · simp [h1]
        · by_cases h3 : a0 = 3
          · simp [h3]
          · by_cases h5 : a0 = 5
            · simp [h5]
            · simp [h1, h3, h5, bqF h5]
      rw [hs, h1]
      cases inB a3 1 1073741824 <;> rfl
    · rfl
  unfold spec_MsgFault.f
  simp only [l1in_eq, Option.bind_some, hj]
  unfold msgFault srvB inB
  by_cases h0 : 1 ≤ a0 ∧ a0 ≤ 6
  · by_cases h1 : 1 ≤ a1 ∧ a1 ≤ 7
    · by_cases h2 : 1 ≤ a2 ∧ a2 ≤ 7
      · have e : (!(a1 == a2)) = (a1 != a2) := rfl
        simp [h0, h1, h2, e]
      · simp [h0, h1, h2]
    · simp [h0, h1]
  · simp [h0, fb]
end spec
end Go.Proofs.Ytnbcpiaajckoaaa.Pure
