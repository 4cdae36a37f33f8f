/- Small words of this program, and two functions that all others use. -/
import Derived.Test.YthnpbfljoghbmaaAm14
import Derived.IntWalk
namespace Go.Proofs.YthnpbfljoghbmaaA
open Go.Proofs
set_option autoImplicit false
set_option linter.unusedVariables false
set_option linter.unusedSimpArgs false
set_option maxRecDepth 4000


abbrev int (n : Int) : TV := .c (.t (.v (.int .i64 n)))
abbrev bool (b : Bool) : TV := .c (.t (.v (.bool b)))
abbrev str (s : ByteArray) : TV := .c (.t (.v (.string s)))
abbrev ci (n : Int) : CV := .t (.v (.int .i64 n))
abbrev cs (s : ByteArray) : CV := .t (.v (.string s))
abbrev ro (sz : Nat) (xs : List (List Tree)) : TV := .c (.t (.sl sz xs))
theorem wrapN {n : Int} (h0 : 0 ≤ n) (h1 : n < 9223372036854775808) : IntKind.i64.wrap n = n := by
  have := IntWalk.i64_in n (by omega)
  exact this
def inB (x lo hi : Int) : Bool := decide (lo ≤ x ∧ x ≤ hi)
/-- The number of the first false one. -/
def fb : List Bool → Int → Int
  | [], _ => 0
  | b :: l, k => if b = true then fb l (k + 1) else k + 1
def encB (b : Bool) : List Tree := [.v (.bool b)]

theorem within_tc (a lo hi : Int) : TC Try.prog 86 [int a, int lo, int hi] [] 1 (bool (inB a lo hi)) [] 1 := by
  refine tc_intro Try.func86 rfl 15 rfl (Nat.le_of_ble_eq_true rfl) (by decide) [6] rfl (by intro id x h; cases h) ?_
  intro w0 E0
  have kOk := k0
  refine wk ?_
  refine am_rs tabOk kOk rfl fun K Q1 hK => ?_
  refine go ?_
  refine guardP_mk (fun h => ?_) (fun h => ?_)
  · refine go ?_
    refine hK _ (am_retP rfl ?_ rfl)
    refine go ?_
    simp only [decide_eq_true_eq] at h
    simp [inB, h]
  · refine go ?_
    refine hK _ (am_retP rfl ?_ rfl)
    refine go ?_
    simp only [Bool.not_true, decide_eq_false_iff_not] at h
    have : ¬ lo ≤ a := by omega
    simp [inB, this]

theorem fb_drop {bs : List Bool} {k : Nat} {b : Bool} (h : bs[k]? = some b) (j : Int) : fb (bs.drop k) j = if b = true then fb (bs.drop (k + 1)) (j + 1) else j + 1 := by
  have hk := (List.getElem?_eq_some_iff.1 h).1
  rw [List.drop_eq_getElem_cons hk]
  have : bs[k] = b := by rw [List.getElem?_eq_getElem hk] at h; exact Option.some.inj h
  simp only [fb, this]
theorem firstBroken_tc (bs : List Bool) (hl : bs.length ≤ 1000) : TC Try.prog 160 [ro 1 (bs.map encB)] [] 1 (int (fb bs 0)) [] 1 := by
  refine tc_intro Try.func160 rfl 17 rfl (Nat.le_of_ble_eq_true rfl) (by decide) [2] rfl (by intro id x h; cases h) ?_
  intro w0 E0
  have kOk := k0
  refine wk ?_
  refine am_tidy [] [0, 5, 6, 7] 1 rfl ?_
  refine go ?_
  refine am_loop (bs.length + 1) ?_
  suffices key : ∀ (d k : Nat), k + d = bs.length → fb (bs.drop k) k = fb bs 0 → amR Try.prog _ _ _ (d + 1) ⟨[(0, ro 1 (bs.map encB)), (5, ro 1 (bs.map encB)), (6, int ((bs.map encB).length : Nat)), (7, int (k : Nat))], [], 1⟩ from key bs.length 0 (by simp) (by simp)
  intro d
  induction d with
  | zero =>
    intro k hk hf
    refine amR_succ ?_
    refine wk ?_
    refine guardP_mk (fun h => ?_) (fun h => ?_)
    · simp at h; omega
    · refine go ?_
      refine wk ?_
      refine am_retP rfl ?_ rfl
      refine go ?_
      rw [List.drop_eq_nil_of_le (by omega)] at hf
      rw [← hf]; rfl
  | succ d ih =>
    intro k hk hf
    refine amR_succ ?_
    refine wk ?_
    refine guardP_mk (fun h => ?_) (fun h => ?_)
    · obtain ⟨b, hb⟩ : ∃ b, bs[k]? = some b := ⟨bs[k]'(by omega), List.getElem?_eq_getElem (by omega)⟩
      have hb2 : (bs.map encB)[k]? = some [.v (.bool b)] := by rw [List.getElem?_map, hb]; rfl
      rw [fb_drop hb] at hf
      refine go ?_
      have hp := hb2
      refine wk1 ?_
      clear hp hb2
      have hp : IntKind.i64.wrap ((k : Int) + 1) = ((k + 1 : Nat) : Int) := by rw [wrapN (by omega) (by omega)]; rfl
      refine guardP_mk (fun h => ?_) (fun h => ?_)
      · simp only [Bool.not_eq_true'] at h
        subst h
        refine go ?_
        refine wk1 ?_
        refine am_retP rfl ?_ rfl
        refine go ?_
        rw [← hf]
        simp
      · simp only [Bool.not_true, Bool.not_eq_false'] at h
        subst h
        refine go ?_
        refine wk1 ?_
        refine amR_tidy [] [0, 5, 6, 7] 1 rfl ?_
        refine go ?_
        exact ih (k + 1) (by omega) (by simpa using hf)
    · simp at h; omega
end Go.Proofs.YthnpbfljoghbmaaA
