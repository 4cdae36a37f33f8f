/- The laws' helpers on rows of entries (size, copy, compare), and the rule that Terms never fall, the program's way and the reference's. -/
import Derived.Test.YtnbcpiaajckoaaaCmd
import Derived.Test.YtnbcpiaajckoaaaPx1
import Derived.Test.YtnbcpiaajckoaaaPx3
import Derived.Test.YtnbcpiaajckoaaaPx4
import Derived.Test.YtnbcpiaajckoaaaPx6
import Derived.Test.YtnbcpiaajckoaaaPx8
import Derived.Test.YtnbcpiaajckoaaaPx10
import Derived.Test.YtnbcpiaajckoaaaPx11
namespace Go.Proofs.Ytnbcpiaajckoaaa.Pure
open Go.RowKit Go.Proofs.Ytnbcpiaajckoaaa.P Go.Proofs.Ytnbcpiaajckoaaa.Mth Go.Proofs.YtnbcpiaajckoaaaW.PrintWords


set_option linter.unusedVariables false
def cvE (x : S70) : S58 := ⟨x.f0, ⟨x.f1.f0, x.f1.f1, x.f1.f2, x.f1.f3, x.f1.f4, x.f1.f5⟩⟩

theorem szCmd_tot (a b c : Int) (x y z : ByteArray) (n : Int) : ∃ r, laws_szCmd.f a b c x y z n = some r := by
  unfold laws_szCmd.f
  repeat' split
  all_goals exact ⟨_, rfl⟩
theorem szEntry_tot (a b c d : Int) (x y z : ByteArray) (n : Int) : ∃ r, laws_szEntry.f a b c d x y z n = some r := by
  unfold laws_szEntry.f
  obtain ⟨r, hr⟩ := szCmd_tot b c d x y z n
  rw [hr]
  simp only [Option.bind_some]
  split
  all_goals exact ⟨_, rfl⟩
theorem szEntryS_from (l : List S70) (hl : l.length ≤ 1048576) : ∀ d i : Nat, i + d = l.length → ∀ (k : Nat) (n : Int), d < k → ∃ r, laws_szEntryS.l0 k l n i = some r := by
  intro d
  induction d with
  | zero =>
    intro i hi k n hk
    obtain ⟨k, rfl⟩ : ∃ m, k = m + 1 := ⟨k - 1, by omega⟩
    simp only [laws_szEntryS.l0]
    rw [if_neg (by omega)]
    exact ⟨_, rfl⟩
  | succ d ih =>
    intro i hi k n hk
    obtain ⟨k, rfl⟩ : ∃ m, k = m + 1 := ⟨k - 1, by omega⟩
    simp only [laws_szEntryS.l0]
    rw [if_pos (by omega), if_pos (by omega)]
    obtain ⟨r, hr⟩ := szEntry_tot ((rd_T70 l i).f0) ((rd_T70 l i).f1.f0) ((rd_T70 l i).f1.f1) ((rd_T70 l i).f1.f2) ((rd_T70 l i).f1.f3) ((rd_T70 l i).f1.f4) ((rd_T70 l i).f1.f5) n
    rw [hr]
    simp only [Option.bind_some]
    split
    · exact ⟨_, rfl⟩
    · rw [wrap_succ (by omega)]
      exact ih (i + 1) (by omega) k r (by omega)
theorem szEntryS_tot (l : List S70) (n : Int) (hm : l.length ≤ maxLen) (h0 : 0 ≤ n) (hn : n ≤ 1048576) {k : Nat} (hk : 1048577 < k) : ∃ r, laws_szEntryS.f k l n = some r ∧ (r < 0 ∨ (l.length : Int) ≤ n) := by
  have hmx : maxLen ≤ 9223372036854775807 := by decide
  unfold laws_szEntryS.f
  have e : wrap64 (n - (l.length : Int)) = n - l.length := wrap64_id (by omega) (by omega)
  rw [e]
  split
  · exact ⟨_, rfl, Or.inl (by decide)⟩
  · obtain ⟨r, hr⟩ := szEntryS_from l (by omega) l.length 0 (by omega) k (n - l.length) (by omega)
    exact ⟨r, hr, Or.inr (by omega)⟩

theorem rdE (l : List S70) (d : S70) (i : Nat) : rd_T70 l (i : Int) = l.getD i z70 := by
  unfold rd_T70
  rw [Int.toNat_natCast]
theorem toEntryS_ok (l : List S70) (hl : l.length ≤ 1048576) {k : Nat} (hk : l.length < k) : laws_toEntryS.f k l = some (l.map cvE) := by
  unfold laws_toEntryS.f
  rw [if_pos (by omega), if_pos (by omega)]
  have h := loop_up (fun k (s : List S58 × Int) => laws_toEntryS.l0 k l s.1 s.2) l.length (fun i => ((l.map cvE).take i ++ List.replicate ((l.map cvE).length - i) z58, (i : Int))) (l.map cvE) (fun i hi k => by
    simp only [laws_toEntryS.l0]
    rw [if_pos (by omega), if_pos (by omega)]
    simp only [laws_toEntry.f, laws_toCmd.f, Option.bind_some]
    rw [if_pos (by rw [List.length_append, List.length_take, List.length_replicate, List.length_map]; omega), wrap_succ (by omega)]
    have e : (⟨(rd_T70 l i).f0, ⟨(rd_T70 l i).f1.f0, (rd_T70 l i).f1.f1, (rd_T70 l i).f1.f2, (rd_T70 l i).f1.f3, (rd_T70 l i).f1.f4, (rd_T70 l i).f1.f5⟩⟩ : S58) = (l.map cvE).getD i z58 := by
      rw [rdE l z70, List.getD_eq_getElem?_getD, List.getD_eq_getElem?_getD, List.getElem?_map, List.getElem?_eq_getElem hi]
      rfl
    rw [e, Int.toNat_natCast, set_fill (l.map cvE) z58 z58 (by rw [List.length_map]; exact hi)]) (fun k => by
    simp only [laws_toEntryS.l0]
    rw [if_neg (by omega), ← List.length_map (f := cvE), List.take_length, Nat.sub_self, List.replicate_zero, List.append_nil]) k hk
  simpa using h

theorem eqEntry_refl (a b c d : Int) (x y z : ByteArray) : laws_eqEntry.f a b c d x y z a b c d x y z = some true := by
  simp [laws_eqEntry.f, laws_eqCmd.f]
theorem eqEntryS_ok (l : List S58) (hl : l.length ≤ 1048576) {k : Nat} (hk : l.length < k) : laws_eqEntryS.f k l l = some true := by
  unfold laws_eqEntryS.f
  rw [if_pos rfl]
  exact loop_up (fun k (s : Int) => laws_eqEntryS.l0 k l l s) l.length (fun i => (i : Int)) true (fun i hi k => by
    simp only [laws_eqEntryS.l0]
    rw [if_pos (by omega), if_pos (by omega), if_pos (by omega), eqEntry_refl, wrap_succ (by omega)]
    simp) (fun k => by
    simp only [laws_eqEntryS.l0]
    rw [if_neg (by omega)]) k hk

/-! ### Entries that are well-formed, Terms that never fall -/
def entOk (e : S58) : Bool := decide (1 ≤ e.f0 ∧ e.f0 ≤ 1073741824) && (cmdFault e.f1.f0 e.f1.f1 e.f1.f2 e.f1.f3 e.f1.f4 e.f1.f5 == 0)
def rising : List S58 → Int → Int → Bool
  | [], _, _ => true
  | e :: es, lo, hi => entOk e && (decide (lo ≤ e.f0) && (decide (e.f0 ≤ hi) && rising es e.f0 hi))
theorem entryOk_eq (e : S58) {k : Nat} (hk : 8 < k) : spec_l1entryOk.f k e.f0 e.f1.f0 e.f1.f1 e.f1.f2 e.f1.f3 e.f1.f4 e.f1.f5 = some (entOk e) := by
  unfold spec_l1entryOk.f entOk
  rw [spec_CmdFault_eq _ _ _ _ _ _ hk]
  by_cases h1 : e.f0 ≥ 1 <;> by_cases h2 : e.f0 ≤ 1073741824 <;> simp [h1, h2] <;> omega
theorem wellFormed_eq (e : S58) {k : Nat} (hk : 8 < k) : impl_Entry_wellFormed.f k e.f0 e.f1.f0 e.f1.f1 e.f1.f2 e.f1.f3 e.f1.f4 e.f1.f5 = some (entOk e) := by
  unfold impl_Entry_wellFormed.f entOk
  rw [within_eq, impl_CmdFault_eq _ _ _ _ _ _ hk]
  by_cases h : 1 ≤ e.f0 ∧ e.f0 ≤ 1073741824 <;> simp [h]
theorem rdI (l : List S58) {i : Nat} (hi : i < l.length) : rd_T58 l (i : Int) = l[i] := by
  unfold rd_T58
  rw [Int.toNat_natCast, List.getD_eq_getElem?_getD, List.getElem?_eq_getElem hi]
  rfl
theorem orderly_from (l : List S58) (hl : l.length ≤ 1048576) (hi : Int) : ∀ d i : Nat, i + d = l.length → ∀ (k : Nat) (p : Int), d + 10 < k → impl_orderly.l0 k p hi l l.length i = some (rising (l.drop i) p hi) := by
  intro d
  induction d with
  | zero =>
    intro i h k p hk
    obtain ⟨k, rfl⟩ : ∃ m, k = m + 1 := ⟨k - 1, by omega⟩
    simp only [impl_orderly.l0]
    rw [if_neg (by omega), List.drop_eq_nil_of_le (by omega)]
    rfl
  | succ d ih =>
    intro i h k p hk
    obtain ⟨k, rfl⟩ : ∃ m, k = m + 1 := ⟨k - 1, by omega⟩
    have hlt : i < l.length := by omega
    simp only [impl_orderly.l0]
    rw [if_pos (by omega), if_pos (by omega), if_pos (by omega), rdI l hlt, wellFormed_eq _ (by omega), List.drop_eq_getElem_cons hlt, wrap_succ (by omega), ih (i + 1) (by omega) k _ (by omega)]
    simp only [rising, Option.bind_some]
    cases entOk l[i]
    · rfl
    · by_cases h1 : l[i].f0 < p
      · simp [h1, show ¬ (p ≤ l[i].f0) by omega]
      · by_cases h2 : l[i].f0 > hi
        · simp [h1, h2, show ¬ (l[i].f0 ≤ hi) by omega]
        · simp [h1, h2, show p ≤ l[i].f0 by omega, show l[i].f0 ≤ hi by omega]
theorem orderly_eq (l : List S58) (hl : l.length ≤ 1048576) (lo hi : Int) {k : Nat} (hk : l.length + 10 < k) : impl_orderly.f k l lo hi = some (rising l lo hi) := by
  unfold impl_orderly.f
  exact orderly_from l hl hi l.length 0 (by omega) k lo hk
theorem rising_from (l : List S58) (hl : l.length ≤ 1048576) (lo hi : Int) : ∀ d i : Nat, i + d = l.length → ∀ (k : Nat), 3 * d + 12 < k → spec_l1rising.l0 k l lo hi i = some (rising (l.drop i) (if i = 0 then lo else (l.getD (i - 1) z58).f0) hi) := by
  intro d
  induction d with
  | zero =>
    intro i h k hk
    obtain ⟨k, rfl⟩ : ∃ m, k = m + 1 := ⟨k - 1, by omega⟩
    simp only [spec_l1rising.l0]
    rw [if_neg (by omega), List.drop_eq_nil_of_le (by omega)]
    rfl
  | succ d ih =>
    intro i h k hk
    obtain ⟨k, rfl⟩ : ∃ m, k = m + 3 := ⟨k - 3, by omega⟩
    have hlt : i < l.length := by omega
    have hih := ih (i + 1) (by omega) k (by omega)
    have eg : l.getD (i + 1 - 1) z58 = l[i] := by
      rw [Nat.add_sub_cancel, List.getD_eq_getElem?_getD, List.getElem?_eq_getElem hlt]
      rfl
    rw [if_neg (by omega), eg] at hih
    simp only [spec_l1rising.l0]
    rw [if_pos (by omega), if_pos (by omega), rdI l hlt, entryOk_eq _ (by omega), List.drop_eq_getElem_cons hlt]
    simp only [rising, Option.bind_some]
    cases he : entOk l[i]
    · simp only [Bool.false_eq_true, if_false, Bool.false_and]
      simp only [spec_l1rising.j1, if_true]
    · simp only [if_true, Bool.true_and]
      by_cases h2 : l[i].f0 > hi
      · have h2' : ¬ (l[i].f0 ≤ hi) := by omega
        simp only [spec_l1rising.j1, decide_eq_true h2, if_true, decide_eq_false h2', Bool.false_and, Bool.and_false]
      · have h2' : l[i].f0 ≤ hi := by omega
        simp only [spec_l1rising.j1, decide_eq_false h2, Bool.false_eq_true, if_false, decide_eq_true h2', Bool.true_and]
        by_cases h0 : i = 0
        · subst h0
          rw [if_pos (by omega), if_pos (by omega), if_pos (by omega), rdI l hlt, if_pos rfl]
          simp only [spec_l1rising.j2, decide_eq_true_eq]
          by_cases h1 : l[0].f0 < lo
          · simp only [h1, if_true, show ¬ (lo ≤ l[0].f0) by omega, decide_false, Bool.false_and]
          · rw [if_neg h1, if_neg (by omega), wrap_succ (by omega), hih]
            simp only [show lo ≤ l[0].f0 by omega, decide_true, Bool.true_and]
        · rw [if_neg (by omega), if_neg h0]
          have ep : wrap64 ((i : Int) - 1) = ((i - 1 : Nat) : Int) := by rw [wrap64_id (by omega) (by omega)]; omega
          have hlt' : i - 1 < l.length := by omega
          have eg' : l.getD (i - 1) z58 = l[i - 1] := by
            rw [List.getD_eq_getElem?_getD, List.getElem?_eq_getElem hlt']
            rfl
          simp only [spec_l1rising.j2, Bool.false_eq_true, if_false]
          rw [if_pos (by omega), if_pos (by omega), if_pos (by omega), ep, if_pos (by omega), if_pos (by omega), rdI l hlt, rdI l hlt', wrap_succ (by omega), hih, eg']
          by_cases h1 : l[i].f0 < l[i - 1].f0
          · simp only [h1, if_true, show ¬ (l[i - 1].f0 ≤ l[i].f0) by omega, decide_false, Bool.false_and]
          · simp only [h1, if_false, show l[i - 1].f0 ≤ l[i].f0 by omega, decide_true, Bool.true_and]
theorem rising_eq (l : List S58) (hl : l.length ≤ 1048576) (lo hi : Int) {k : Nat} (hk : 3 * l.length + 12 < k) : spec_l1rising.f k l lo hi = some (rising l lo hi) := by
  unfold spec_l1rising.f
  exact rising_from l hl lo hi l.length 0 (by omega) k hk
end Go.Proofs.Ytnbcpiaajckoaaa.Pure
