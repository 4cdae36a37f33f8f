/- Marks read again; rows that are nil. -/
import Derived.Test.YtaolgdpkcbfocaaFMark
namespace Go.Proofs.YtaolgdpkcbfocaaA
open Go.Proofs
set_option autoImplicit false
set_option linter.unusedVariables false
set_option linter.unusedSimpArgs false
set_option maxRecDepth 4000
attribute [go_sem] Option.isSome_some
def unEntT : List Tree → Option Ent
  | [.v (.int .i64 k), .v (.int .i64 a), .v (.int .i64 b), .v (.int .i64 o), .v (.string x), .v (.string y), .v (.string z)] => some ⟨k, ⟨a, b, o, x, y, z⟩⟩
  | _ => none
theorem unEntT_ok {xs : List Tree} {c : Ent} (h : unEntT xs = some c) : xs = c.tr := by
  unfold unEntT at h
  split at h
  · cases h; rfl
  · cases h
def unEnts : List (List Tree) → Option (List Ent)
  | [] => some []
  | x :: l => match unEntT x, unEnts l with
    | some e, some es => some (e :: es)
    | _, _ => none
@[go_sem] theorem unEnts_map (l : List Ent) : unEnts (l.map Ent.tr) = some l := by
  induction l with
  | nil => rfl
  | cons e l ih => simp only [List.map_cons, unEnts, ih]; rfl
theorem unEnts_ok : ∀ {xs : List (List Tree)} {l : List Ent}, unEnts xs = some l → xs = l.map Ent.tr
  | [], l, h => by cases h; rfl
  | x :: xs, l, h => by
    unfold unEnts at h
    split at h
    · rename_i e es he hes
      cases h
      rw [unEntT_ok he, unEnts_ok hes]
      rfl
    · cases h
def unInts : List (List Tree) → Option (List Int)
  | [] => some []
  | x :: l => match x, unInts l with
    | [.v (.int .i64 n)], some es => some (n :: es)
    | _, _ => none
@[go_sem] theorem unInts_map (l : List Int) : unInts (l.map iTr) = some l := by
  induction l with
  | nil => rfl
  | cons e l ih => simp only [List.map_cons, unInts, ih]; rfl
theorem unInts_ok : ∀ {xs : List (List Tree)} {l : List Int}, unInts xs = some l → xs = l.map iTr
  | [], l, h => by cases h; rfl
  | x :: xs, l, h => by
    unfold unInts at h
    split at h
    · rename_i n es he
      cases h
      rw [unInts_ok he]
      rfl
    · cases h
@[go_sem] theorem take_map_len {α β : Type} (f : α → β) (l : List α) : (l.map f).take l.length = l.map f := List.take_of_length_le (by simp)
@[go_sem] theorem le_map_len {α β : Type} (f : α → β) (l : List α) : (l.length ≤ (l.map f).length) = True := by simp
@[go_sem] theorem take_mk {β : Type} (f : Ent → β) (n : Nat) (k : Int) : ((mkEs n k).map f).take n = (mkEs n k).map f := List.take_of_length_le (by simp [mkEs_len])
@[go_sem] theorem le_mk {β : Type} (f : Ent → β) (n : Nat) (k : Int) : (n ≤ ((mkEs n k).map f).length) = True := by simp [mkEs_len]
@[go_sem] theorem mk_self (n : Nat) (k : Int) : (mkEs n k = mkEs (mkEs n k).length k) = True := by simp [mkEs_len]
set_option maxHeartbeats 16000000 in
theorem heldEs_tc (n : Nat) (k : Int) (h0 : 0 ≤ k) (hk : k + 7 * (n : Nat) ≤ 1099511627776) : TC Try.prog 59 [ro 7 ((mkEs n k).map Ent.tr), int k] [] 1 (int (k + 7 * (n : Nat))) [] 1 := by
  refine tc_intro Try.func59 rfl 85 rfl (Nat.le_of_ble_eq_true rfl) (by decide) [4] rfl (by intro id x h; cases h) ?_
  intro w0 E0
  have kOk := k13
  refine wk ?_
  refine am_tidy [] [0, 1, 5] 1 rfl ?_
  refine go ?_
  refine am_loop (n + 1) ?_
  suffices key : ∀ (d i : Nat) (c : Int), i + d = n → c = k + 7 * (i : Nat) → amR Try.prog _ _ _ (d + 1) ⟨[(0, ro 7 ((mkEs n k).map Ent.tr)), (1, int c), (5, int (i : Nat))], [], 1⟩ from key n 0 k (by simp) (by simp)
  intro d
  induction d with
  | zero =>
    intro i c hi hc
    have hp : ((mkEs n k).map Ent.tr).length = n := by simp [mkEs_len]
    refine amR_succ ?_
    refine wk1 ?_
    refine guardP_mk (fun h => ?_) (fun h => ?_)
    · simp at h; omega
    · refine go1 ?_
      refine wk1 ?_
      have hi' : i = n := hi
      subst hi'
      subst hc
      refine am_retP rfl ?_ rfl
      first | refine go ?_ | rfl
  | succ d ih =>
    intro i c hi hc
    have hat : ((mkEs n k).map Ent.tr)[i]? = some (mkE c).tr := by rw [List.getElem?_map, mkEs_get k (by omega), hc]; rfl
    have hp := (show ((mkEs n k).map Ent.tr).length = n ∧ ((mkEs n k).map Ent.tr)[i]? = some (mkE c).tr ∧
        IntKind.i64.wrap ((i : Int) + 1) = ((i + 1 : Nat) : Int) ∧ (∀ x : Int, (x != x) = false) ∧ IntKind.i64.wrap (c + 1) = c + 1 ∧ IntKind.i64.wrap (c + 1 + 1) = c + 1 + 1 ∧ IntKind.i64.wrap (c + 1 + 1 + 1) = c + 1 + 1 + 1 ∧ IntKind.i64.wrap (c + 1 + 1 + 1 + 1) = c + 1 + 1 + 1 + 1 ∧
        IntKind.i64.wrap (c + 1 + 1 + 1 + 1 + 1) = c + 1 + 1 + 1 + 1 + 1 ∧ IntKind.i64.wrap (c + 1 + 1 + 1 + 1 + 1 + 1) = c + 1 + 1 + 1 + 1 + 1 + 1 ∧ IntKind.i64.wrap (c + 1 + 1 + 1 + 1 + 1 + 1 + 1) = c + 1 + 1 + 1 + 1 + 1 + 1 + 1 ∧ (c + 1 + 1 + 1 + 1 ≤ 1152921504606846976) = True ∧ (c + 1 + 1 + 1 + 1 + 1 ≤ 1152921504606846976) = True ∧ (c + 1 + 1 + 1 + 1 + 1 + 1 ≤ 1152921504606846976) = True from
      ⟨by simp [mkEs_len], hat, by rw [wrapN (by omega) (by omega)]; rfl, fun x => by simp, wrapN (by omega) (by omega), wrapN (by omega) (by omega), wrapN (by omega) (by omega), wrapN (by omega) (by omega), wrapN (by omega) (by omega), wrapN (by omega) (by omega), wrapN (by omega) (by omega), eq_true (by omega), eq_true (by omega), eq_true (by omega)⟩)
    clear hat
    simp only [Ent.tr, mkE] at hp
    refine amR_succ ?_
    refine wk1 ?_
    refine guardP_mk (fun h => ?_) (fun h => ?_)
    · refine go1 ?_
      refine wk1 ?_
      refine amR_tidy [] [0, 1, 5] 1 rfl ?_
      refine go1 ?_
      exact ih (i + 1) _ (by omega) (by omega)
    · simp at h; omega
def nilV : TV := lit (.slice none 0 0)
theorem markEs0_tc (k : Int) : TC Try.prog 48 [lit (.slice none 0 0), int k] [] 1 (int k) [] 1 := by
  refine tc_intro Try.func48 rfl 71 rfl (Nat.le_of_ble_eq_true rfl) (by decide) [4] rfl (by intro id x h; cases h) ?_
  intro w0 E0
  have kOk := k13
  refine wk ?_
  refine am_loop 1 (amR_succ ?_)
  repeat' (fail_if_success (with_reducible apply amR_id)); first
    | (refine guardP_mk (fun h => ?_) (fun h => ?_) <;> (refine go ?_; try simp only [decide_eq_true_eq, decide_eq_false_iff_not, Bool.not_true, Bool.not_false, Bool.not_eq_true', Bool.not_eq_false', beq_iff_eq, bne_iff_ne, beq_eq_false_iff_ne, bne_eq_false_iff_eq, ne_eq, Bool.false_eq_true, reduceCtorEq] at h))
    | (refine hK _ ?_; clear hK K Q1)
    | (refine ⟨by first | omega | (simp only [List.length_map, List.length_append, List.length_cons, List.length_nil, List.length_replicate, List.length_drop, List.length_take]; omega), by unfold maxLen; first | omega | (simp only [List.length_map, List.length_append, List.length_cons, List.length_nil, List.length_replicate, List.length_drop, List.length_take]; omega), ?_⟩)
    | (refine hK _ _ rfl ?_; clear hK K; try refine go ?_)
    | (refine am_retP rfl ?_ rfl; first | refine go ?_ | rfl)
    | (refine am_retC [] rfl ?_ rfl rfl; first | refine go ?_ | rfl)
    | (refine wkp ?_)
    | (refine am_rs tabOk kOk rfl fun K Q1 hK => ?_; refine go ?_)
    | (refine am_ds mixed tabOk kOk rfl rfl fun K hK => ?_; refine go ?_)
    | (refine am_dreg mixed tabOk kOk rfl rfl fun K hK => ?_; refine go ?_)
  all_goals first | rfl | (exfalso; omega)
theorem heldEs0_tc (k : Int) : TC Try.prog 59 [lit (.slice none 0 0), int k] [] 1 (int k) [] 1 := by
  refine tc_intro Try.func59 rfl 85 rfl (Nat.le_of_ble_eq_true rfl) (by decide) [4] rfl (by intro id x h; cases h) ?_
  intro w0 E0
  have kOk := k13
  refine wk ?_
  refine am_loop 1 (amR_succ ?_)
  repeat' (fail_if_success (with_reducible apply amR_id)); first
    | (refine guardP_mk (fun h => ?_) (fun h => ?_) <;> (refine go ?_; try simp only [decide_eq_true_eq, decide_eq_false_iff_not, Bool.not_true, Bool.not_false, Bool.not_eq_true', Bool.not_eq_false', beq_iff_eq, bne_iff_ne, beq_eq_false_iff_ne, bne_eq_false_iff_eq, ne_eq, Bool.false_eq_true, reduceCtorEq] at h))
    | (refine hK _ ?_; clear hK K Q1)
    | (refine ⟨by first | omega | (simp only [List.length_map, List.length_append, List.length_cons, List.length_nil, List.length_replicate, List.length_drop, List.length_take]; omega), by unfold maxLen; first | omega | (simp only [List.length_map, List.length_append, List.length_cons, List.length_nil, List.length_replicate, List.length_drop, List.length_take]; omega), ?_⟩)
    | (refine hK _ _ rfl ?_; clear hK K; try refine go ?_)
    | (refine am_retP rfl ?_ rfl; first | refine go ?_ | rfl)
    | (refine am_retC [] rfl ?_ rfl rfl; first | refine go ?_ | rfl)
    | (refine wkp ?_)
    | (refine am_rs tabOk kOk rfl fun K Q1 hK => ?_; refine go ?_)
    | (refine am_ds mixed tabOk kOk rfl rfl fun K hK => ?_; refine go ?_)
    | (refine am_dreg mixed tabOk kOk rfl rfl fun K hK => ?_; refine go ?_)
  all_goals first | rfl | (exfalso; omega)
theorem markIs0_tc (k : Int) : TC Try.prog 58 [lit (.slice none 0 0), int k] [] 1 (int k) [] 1 := by
  refine tc_intro Try.func58 rfl 19 rfl (Nat.le_of_ble_eq_true rfl) (by decide) [4] rfl (by intro id x h; cases h) ?_
  intro w0 E0
  have kOk := k13
  refine wk ?_
  refine am_loop 1 (amR_succ ?_)
  repeat' (fail_if_success (with_reducible apply amR_id)); first
    | (refine guardP_mk (fun h => ?_) (fun h => ?_) <;> (refine go ?_; try simp only [decide_eq_true_eq, decide_eq_false_iff_not, Bool.not_true, Bool.not_false, Bool.not_eq_true', Bool.not_eq_false', beq_iff_eq, bne_iff_ne, beq_eq_false_iff_ne, bne_eq_false_iff_eq, ne_eq, Bool.false_eq_true, reduceCtorEq] at h))
    | (refine hK _ ?_; clear hK K Q1)
    | (refine ⟨by first | omega | (simp only [List.length_map, List.length_append, List.length_cons, List.length_nil, List.length_replicate, List.length_drop, List.length_take]; omega), by unfold maxLen; first | omega | (simp only [List.length_map, List.length_append, List.length_cons, List.length_nil, List.length_replicate, List.length_drop, List.length_take]; omega), ?_⟩)
    | (refine hK _ _ rfl ?_; clear hK K; try refine go ?_)
    | (refine am_retP rfl ?_ rfl; first | refine go ?_ | rfl)
    | (refine am_retC [] rfl ?_ rfl rfl; first | refine go ?_ | rfl)
    | (refine wkp ?_)
    | (refine am_rs tabOk kOk rfl fun K Q1 hK => ?_; refine go ?_)
    | (refine am_ds mixed tabOk kOk rfl rfl fun K hK => ?_; refine go ?_)
    | (refine am_dreg mixed tabOk kOk rfl rfl fun K hK => ?_; refine go ?_)
  all_goals first | rfl | (exfalso; omega)
theorem heldIs0_tc (k : Int) : TC Try.prog 60 [lit (.slice none 0 0), int k] [] 1 (int k) [] 1 := by
  refine tc_intro Try.func60 rfl 21 rfl (Nat.le_of_ble_eq_true rfl) (by decide) [4] rfl (by intro id x h; cases h) ?_
  intro w0 E0
  have kOk := k13
  refine wk ?_
  refine am_loop 1 (amR_succ ?_)
  repeat' (fail_if_success (with_reducible apply amR_id)); first
    | (refine guardP_mk (fun h => ?_) (fun h => ?_) <;> (refine go ?_; try simp only [decide_eq_true_eq, decide_eq_false_iff_not, Bool.not_true, Bool.not_false, Bool.not_eq_true', Bool.not_eq_false', beq_iff_eq, bne_iff_ne, beq_eq_false_iff_ne, bne_eq_false_iff_eq, ne_eq, Bool.false_eq_true, reduceCtorEq] at h))
    | (refine hK _ ?_; clear hK K Q1)
    | (refine ⟨by first | omega | (simp only [List.length_map, List.length_append, List.length_cons, List.length_nil, List.length_replicate, List.length_drop, List.length_take]; omega), by unfold maxLen; first | omega | (simp only [List.length_map, List.length_append, List.length_cons, List.length_nil, List.length_replicate, List.length_drop, List.length_take]; omega), ?_⟩)
    | (refine hK _ _ rfl ?_; clear hK K; try refine go ?_)
    | (refine am_retP rfl ?_ rfl; first | refine go ?_ | rfl)
    | (refine am_retC [] rfl ?_ rfl rfl; first | refine go ?_ | rfl)
    | (refine wkp ?_)
    | (refine am_rs tabOk kOk rfl fun K Q1 hK => ?_; refine go ?_)
    | (refine am_ds mixed tabOk kOk rfl rfl fun K hK => ?_; refine go ?_)
    | (refine am_dreg mixed tabOk kOk rfl rfl fun K hK => ?_; refine go ?_)
  all_goals first | rfl | (exfalso; omega)
end Go.Proofs.YtaolgdpkcbfocaaA
