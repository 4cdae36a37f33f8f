/- Draws: numbers and words out of a row of bytes. -/
import Derived.Test.YtgalnkilcajgcaaFLawCm
namespace Go.Proofs.YtgalnkilcajgcaaA
open Go.Proofs
set_option autoImplicit false
set_option linter.unusedVariables false
set_option linter.unusedSimpArgs false
set_option maxRecDepth 4000
def bTr (n : Int) : List Tree := [.v (.int .u8 n)]
def unBys : List (List Tree) → Option (List Int)
  | [] => some []
  | x :: l => match x, unBys l with
    | [.v (.int .u8 n)], some es => some (n :: es)
    | _, _ => none
@[go_sem] theorem unBys_map (l : List Int) : unBys (l.map bTr) = some l := by
  induction l with
  | nil => rfl
  | cons e l ih => simp only [List.map_cons, unBys, ih]; rfl
theorem unBys_ok : ∀ {xs : List (List Tree)} {l : List Int}, unBys xs = some l → xs = l.map bTr
  | [], l, h => by cases h; rfl
  | x :: xs, l, h => by
    unfold unBys at h
    split at h
    · rename_i n es he
      cases h
      rw [unBys_ok he]
      rfl
    · cases h
/-- The number behind place a. -/
def nxF (bs : List Int) (a : Int) : Int :=
  if a < bs.length then IntKind.i64.wrap (bs.getD a.toNat 0)
  else Int.tmod (IntKind.i64.wrap (IntKind.i64.wrap (IntKind.i64.wrap (a * 167) + IntKind.i64.wrap (IntKind.i64.wrap (Int.tdiv a 3) * 41)) + IntKind.i64.wrap ((bs.length : Int) * 29))) 256
/-- A place that is not too far. -/
def okA (a : Int) : Prop := 0 ≤ a ∧ a ≤ 1099511627776
instance (a : Int) : Decidable (okA a) := inferInstanceAs (Decidable (_ ∧ _))
set_option maxHeartbeats 8000000 in
theorem nx_tc (bs : List Int) (a : Int) (ha : okA a) : TC Try.prog 135 [.c (.ptr 1 0)] [(1, .cells [.t (.sl 1 (bs.map bTr)), ci a])] 2 (int (nxF bs a)) [(1, .cells [.t (.sl 1 (bs.map bTr)), ci (a + 1)])] 2 := by
  obtain ⟨h0, h1⟩ := ha
  have hw : IntKind.i64.wrap (a + 1) = a + 1 := wrapN (by omega) (by omega)
  by_cases h : a < bs.length
  · have hn : nxF bs a = IntKind.i64.wrap (bs.getD a.toNat 0) := if_pos h
    rw [hn]
    obtain ⟨e, he⟩ : ∃ e, bs[a.toNat]? = some e := ⟨bs[a.toNat]'(by omega), List.getElem?_eq_getElem (by omega)⟩
    have hg : bs.getD a.toNat 0 = e := by simp [List.getD, he]
    rw [hg]
    refine tc_intro Try.func135 rfl 53 rfl (Nat.le_of_ble_eq_true rfl) (by decide) [2] rfl dom1 ?_
    intro w0 E0
    have kOk := kC
    have hp := (show (bs.map bTr).length = bs.length ∧ (bs.map bTr)[a.toNat]? = some (bTr e) ∧ (a < (bs.length : Int)) = True ∧ (0 ≤ a) = True ∧ IntKind.i64.wrap (a + 1) = a + 1 from ⟨by simp, by rw [List.getElem?_map, he]; rfl, eq_true h, eq_true h0, hw⟩)
    simp only [bTr] at hp
    repeat' (fail_if_success (with_reducible apply amR_id)); first
      | (refine guardP_mk (fun h => ?_) (fun h => ?_) <;> (refine go1 ?_; try simp only [decide_eq_true_eq, decide_eq_false_iff_not, Bool.not_true, Bool.not_false, Bool.not_eq_true', Bool.not_eq_false', beq_iff_eq, bne_iff_ne, beq_eq_false_iff_ne, bne_eq_false_iff_eq, ne_eq, Bool.false_eq_true, reduceCtorEq] at h))
      | (refine hK _ ?_; clear hK K Q1)
      | (refine hK _ _ rfl ?_; clear hK K; try refine go1 ?_)
      | (refine am_retC [(1, 1)] rfl ?_ rfl rfl; first | refine go ?_ | rfl)
      | (refine am_retB [(1, 1)] rfl ?_ ?_ rfl <;> first | refine go ?_ | rfl)
      | (refine wkq ?_)
      | (refine am_rs tabOk kOk rfl fun K Q1 hK => ?_; refine go1 ?_)
      | (refine am_ds mixed tabOk kOk rfl rfl fun K hK => ?_; refine go1 ?_)
      | (refine am_dreg mixed tabOk kOk rfl rfl fun K hK => ?_; refine go1 ?_)
    all_goals rfl
  · have hn : nxF bs a = _ := if_neg h
    rw [hn]
    refine tc_intro Try.func135 rfl 53 rfl (Nat.le_of_ble_eq_true rfl) (by decide) [2] rfl dom1 ?_
    intro w0 E0
    have kOk := kC
    have hp := (show (bs.map bTr).length = bs.length ∧ (a < (bs.length : Int)) = False ∧ IntKind.i64.wrap (a + 1) = a + 1 ∧ ((3 : Int) = 0) = False ∧ ((256 : Int) = 0) = False from ⟨by simp, eq_false h, hw, by simp, by simp⟩)
    repeat' (fail_if_success (with_reducible apply amR_id)); first
      | (refine guardP_mk (fun h => ?_) (fun h => ?_) <;> (refine go1 ?_; try simp only [decide_eq_true_eq, decide_eq_false_iff_not, Bool.not_true, Bool.not_false, Bool.not_eq_true', Bool.not_eq_false', beq_iff_eq, bne_iff_ne, beq_eq_false_iff_ne, bne_eq_false_iff_eq, ne_eq, Bool.false_eq_true, reduceCtorEq] at h))
      | (refine hK _ ?_; clear hK K Q1)
      | (refine hK _ _ rfl ?_; clear hK K; try refine go1 ?_)
      | (refine am_retC [(1, 1)] rfl ?_ rfl rfl; first | refine go ?_ | rfl)
      | (refine am_retB [(1, 1)] rfl ?_ ?_ rfl <;> first | refine go ?_ | rfl)
      | (refine wkq ?_)
      | (refine am_rs tabOk kOk rfl fun K Q1 hK => ?_; refine go1 ?_)
      | (refine am_ds mixed tabOk kOk rfl rfl fun K hK => ?_; refine go1 ?_)
      | (refine am_dreg mixed tabOk kOk rfl rfl fun K hK => ?_; refine go1 ?_)
    all_goals rfl
end Go.Proofs.YtgalnkilcajgcaaA
