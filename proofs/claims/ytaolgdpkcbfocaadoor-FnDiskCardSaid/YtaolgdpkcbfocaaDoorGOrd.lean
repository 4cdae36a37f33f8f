/- Entries in order, for the door seat. -/
import Derived.Test.YtaolgdpkcbfocaaDoorGEnt
namespace Go.Proofs.YtaolgdpkcbfocaaDoorA
open Go.Proofs
set_option autoImplicit false
set_option linter.unusedVariables false
set_option linter.unusedSimpArgs false
set_option maxRecDepth 4000
def entOk (e : Ent) : Bool := decide ((1 ≤ e.term ∧ e.term ≤ 1073741824) ∧ cmF e.m = 0)
theorem entS_tc (c : Ent) : TC Tryd.prog 102 [.agg c.cv] [] 1 (bool (entOk c)) [] 1 := by
  refine tc_intro Tryd.func102 rfl 17 rfl (Nat.le_of_ble_eq_true rfl) (by decide) [2] rfl (by intro id x h; cases h) ?_
  intro w0 E0
  have kOk := k72
  obtain ⟨k, ⟨a, q, o, x, y, z⟩⟩ := c
  simp only [Ent.cv, Cm.cv]
  repeat' (fail_if_success (with_reducible apply amR_id)); first
    | (refine guardP_mk (fun h => ?_) (fun h => ?_) <;> (refine go ?_; try simp only [decide_eq_true_eq, decide_eq_false_iff_not, Bool.not_true, Bool.not_false, Bool.not_eq_true', Bool.not_eq_false', beq_iff_eq, bne_iff_ne, beq_eq_false_iff_ne, bne_eq_false_iff_eq, ne_eq, Bool.false_eq_true, reduceCtorEq] at h))
    | (refine hK _ ?_; clear hK K Q1)
    | (refine ⟨by first | omega | (simp only [List.length_map, List.length_append, List.length_cons, List.length_nil, List.length_replicate, List.length_drop, List.length_take]; omega), by unfold maxLen; first | omega | (simp only [List.length_map, List.length_append, List.length_cons, List.length_nil, List.length_replicate, List.length_drop, List.length_take]; omega), ?_⟩)
    | (refine hK _ _ rfl ?_; clear hK K; try refine go ?_)
    | (refine am_retP rfl ?_ rfl; first | refine go ?_ | rfl)
    | (refine am_retC [] rfl ?_ rfl rfl; first | refine go ?_ | rfl)
    | (refine wkp ?_)
    | (refine am_rs tabOk kOk rfl fun K Q1 hK => ?_; refine go ?_)
    | (refine am_reg tabOk kOk rfl fun K Q1 hK => ?_; refine go ?_)
    | (refine am_ds mixed tabOk kOk rfl rfl fun K hK => ?_; refine go ?_)
    | (refine am_dreg mixed tabOk kOk rfl rfl fun K hK => ?_; refine go ?_)
  all_goals (simp only [TV.c.injEq, CV.t.injEq, Tree.v.injEq, Value.bool.injEq]; rw [Bool.eq_iff_iff]; simp only [entOk, decide_eq_true_eq, beq_iff_eq, Bool.false_eq_true, false_iff, true_iff] at *; omega)
theorem entI_tc (c : Ent) : TC Tryd.prog 104 [.agg c.cv] [] 1 (bool (entOk c)) [] 1 := by
  refine tc_intro Tryd.func104 rfl 12 rfl (Nat.le_of_ble_eq_true rfl) (by decide) [2] rfl (by intro id x h; cases h) ?_
  intro w0 E0
  have kOk := k72
  obtain ⟨k, ⟨a, q, o, x, y, z⟩⟩ := c
  simp only [Ent.cv, Cm.cv]
  repeat' (fail_if_success (with_reducible apply amR_id)); first
    | (refine guardP_mk (fun h => ?_) (fun h => ?_) <;> (refine go ?_; try simp only [decide_eq_true_eq, decide_eq_false_iff_not, Bool.not_true, Bool.not_false, Bool.not_eq_true', Bool.not_eq_false', beq_iff_eq, bne_iff_ne, beq_eq_false_iff_ne, bne_eq_false_iff_eq, ne_eq, Bool.false_eq_true, reduceCtorEq] at h))
    | (refine hK _ ?_; clear hK K Q1)
    | (refine ⟨by first | omega | (simp only [List.length_map, List.length_append, List.length_cons, List.length_nil, List.length_replicate, List.length_drop, List.length_take]; omega), by unfold maxLen; first | omega | (simp only [List.length_map, List.length_append, List.length_cons, List.length_nil, List.length_replicate, List.length_drop, List.length_take]; omega), ?_⟩)
    | (refine hK _ _ rfl ?_; clear hK K; try refine go ?_)
    | (refine am_retP rfl ?_ rfl; first | refine go ?_ | rfl)
    | (refine am_retC [] rfl ?_ rfl rfl; first | refine go ?_ | rfl)
    | (refine wkp ?_)
    | (refine am_rs tabOk kOk rfl fun K Q1 hK => ?_; refine go ?_)
    | (refine am_reg tabOk kOk rfl fun K Q1 hK => ?_; refine go ?_)
    | (refine am_ds mixed tabOk kOk rfl rfl fun K hK => ?_; refine go ?_)
    | (refine am_dreg mixed tabOk kOk rfl rfl fun K hK => ?_; refine go ?_)
  all_goals (simp only [TV.c.injEq, CV.t.injEq, Tree.v.injEq, Value.bool.injEq]; rw [Bool.eq_iff_iff]; simp only [entOk, inB, decide_eq_true_eq, decide_eq_false_iff_not, beq_iff_eq, Bool.false_eq_true, false_iff, true_iff] at *; omega)
def kn75_0_1 (c : Ent) : Option TV := some (bool (entOk c))
def kn75_0_0 (r0 : List CV) : Option TV := (unEnt r0).bind (kn75_0_1)
def kn75_0 : List TV → Option TV
  | [.agg r0] => kn75_0_0 r0
  | _ => none
def kn75_1_1 (c : Ent) : Option TV := some (bool (entOk c))
def kn75_1_0 (r0 : List CV) : Option TV := (unEnt r0).bind (kn75_1_1)
def kn75_1 : List TV → Option TV
  | [.agg r0] => kn75_1_0 r0
  | _ => none
def kn75_call (f : FuncId) (args : List TV) : Option TV := if f = 102 then orO (kn75_0 args) (kn72.call f args) else if f = 104 then orO (kn75_1 args) (kn72.call f args) else kn72.call f args
def kn75 : Kn := { call := kn75_call, eqs := eqTys, callB := kn72.callB }
attribute [go_sem] kn75_0_0 kn75_0_1 kn75_0 kn75_1_0 kn75_1_1 kn75_1 kn75_call kn75
theorem kn75_ok : ∀ f args res, kn75_call f args = some res → TC Tryd.prog f args [] 1 res [] 1 := by
  intro f args res h
  unfold kn75_call at h
  split at h
  · rename_i e; subst e
    have hh := orO_elim h
    clear h
    rcases hh with h | h
    rotate_left
    · exact k72.call _ _ _ h
    unfold kn75_0 at h
    split at h
    · rename_i r0; unfold kn75_0_0 at h
      obtain ⟨c, e0, h⟩ := Option.bind_eq_some_iff.1 h
      unfold kn75_0_1 at h
      cases h; rw [unEnt_ok e0]; exact entS_tc c
    · cases h
  split at h
  · rename_i e; subst e
    have hh := orO_elim h
    clear h
    rcases hh with h | h
    rotate_left
    · exact k72.call _ _ _ h
    unfold kn75_1 at h
    split at h
    · rename_i r0; unfold kn75_1_0 at h
      obtain ⟨c, e0, h⟩ := Option.bind_eq_some_iff.1 h
      unfold kn75_1_1 at h
      cases h; rw [unEnt_ok e0]; exact entI_tc c
    · cases h
  · exact k72.call f args res h
theorem k75 : KnOk Tryd.prog kn75 := ⟨kn75_ok, eqTysOk, k72.callB⟩
/-- Entries in order: terms from low to high. -/
def risF : List Ent → Int → Int → Bool
  | [], _, _ => true
  | e :: l, low, high => entOk e && decide (low ≤ e.term ∧ e.term ≤ high) && risF l e.term high
theorem risF_drop {l : List Ent} {k : Nat} {e : Ent} (h : l[k]? = some e) (low high : Int) : risF (l.drop k) low high = (entOk e && decide (low ≤ e.term ∧ e.term ≤ high) && risF (l.drop (k + 1)) e.term high) := by
  have hk := (List.getElem?_eq_some_iff.1 h).1
  rw [List.drop_eq_getElem_cons hk]
  have : l[k] = e := by rw [List.getElem?_eq_getElem hk] at h; exact Option.some.inj h
  simp only [risF, this]
set_option maxHeartbeats 8000000 in
theorem risI_tc (l : List Ent) (low high : Int) (hl : l.length ≤ 1048576) : TC Tryd.prog 141 [ro 7 (l.map Ent.tr), int low, int high] [] 1 (bool (risF l low high)) [] 1 := by
  refine tc_intro Tryd.func141 rfl 33 rfl (Nat.le_of_ble_eq_true rfl) (by decide) [6] rfl (by intro id x h; cases h) ?_
  intro w0 E0
  have kOk := k75
  have hp : (l.map Ent.tr).length = l.length := by simp
  refine wk1 ?_
  refine am_tidy [] [0, 1, 2, 9, 10, 11] 1 rfl ?_
  refine go1 ?_
  refine am_loop (l.length + 1) ?_
  suffices key : ∀ (d k : Nat) (lo : Int), k + d = l.length → risF (l.drop k) lo high = risF l low high → amR Tryd.prog _ _ _ (d + 1) ⟨[(0, ro 7 (l.map Ent.tr)), (1, int lo), (2, int high), (9, ro 7 (l.map Ent.tr)), (10, int (l.length : Nat)), (11, int (k : Nat))], [], 1⟩ from key l.length 0 low (by simp) rfl
  intro d
  induction d with
  | zero =>
    intro k lo hk hf
    refine amR_succ ?_
    rw [List.drop_eq_nil_of_le (by omega)] at hf
    repeat' (fail_if_success (with_reducible apply amR_id)); first
      | (refine guardP_mk (fun h => ?_) (fun h => ?_) <;> (refine go1 ?_; try simp only [decide_eq_true_eq, decide_eq_false_iff_not, Bool.not_true, Bool.not_false, Bool.not_eq_true', Bool.not_eq_false', beq_iff_eq, bne_iff_ne, beq_eq_false_iff_ne, bne_eq_false_iff_eq, ne_eq, Bool.false_eq_true, reduceCtorEq] at h))
      | (refine hK _ ?_; clear hK K Q1)
      | (refine ⟨by first | omega | (simp only [List.length_map, List.length_append, List.length_cons, List.length_nil, List.length_replicate, List.length_drop, List.length_take]; omega), by unfold maxLen; first | omega | (simp only [List.length_map, List.length_append, List.length_cons, List.length_nil, List.length_replicate, List.length_drop, List.length_take]; omega), ?_⟩)
      | (refine hK _ _ rfl ?_; clear hK K; try refine go1 ?_)
      | (refine am_retP rfl ?_ rfl; first | refine go ?_ | rfl)
      | (refine am_retC [] rfl ?_ rfl rfl; first | refine go ?_ | rfl)
      | (refine wkq ?_)
      | (refine am_rs tabOk kOk rfl fun K Q1 hK => ?_; refine go1 ?_)
      | (refine am_reg tabOk kOk rfl fun K Q1 hK => ?_; refine go1 ?_)
      | (refine am_ds mixed tabOk kOk rfl rfl fun K hK => ?_; refine go1 ?_)
      | (refine am_dreg mixed tabOk kOk rfl rfl fun K hK => ?_; refine go1 ?_)
    all_goals first | (exfalso; omega) | (rw [← hf]; rfl)
  | succ d ih =>
    intro k lo hk hf
    obtain ⟨e, he⟩ : ∃ e, l[k]? = some e := ⟨l[k]'(by omega), List.getElem?_eq_getElem (by omega)⟩
    rw [risF_drop he] at hf
    have hp := (show (l.map Ent.tr)[k]? = some e.tr ∧ IntKind.i64.wrap ((k : Int) + 1) = ((k + 1 : Nat) : Int) from ⟨by rw [List.getElem?_map, he]; rfl, by rw [wrapN (by omega) (by omega)]; rfl⟩)
    obtain ⟨t, ⟨a, b, o, x, y, z⟩⟩ := e
    simp only [Ent.tr] at hp
    refine amR_succ ?_
    repeat' (fail_if_success (with_reducible apply amR_id)); first
      | (refine guardP_mk (fun h => ?_) (fun h => ?_) <;> (refine go1 ?_; try simp only [decide_eq_true_eq, decide_eq_false_iff_not, Bool.not_true, Bool.not_false, Bool.not_eq_true', Bool.not_eq_false', beq_iff_eq, bne_iff_ne, beq_eq_false_iff_ne, bne_eq_false_iff_eq, ne_eq, Bool.false_eq_true, reduceCtorEq] at h))
      | (refine hK _ ?_; clear hK K Q1)
      | (refine ⟨by first | omega | (simp only [List.length_map, List.length_append, List.length_cons, List.length_nil, List.length_replicate, List.length_drop, List.length_take]; omega), by unfold maxLen; first | omega | (simp only [List.length_map, List.length_append, List.length_cons, List.length_nil, List.length_replicate, List.length_drop, List.length_take]; omega), ?_⟩)
      | (refine hK _ _ rfl ?_; clear hK K; try refine go1 ?_)
      | (refine am_retP rfl ?_ rfl; first | refine go ?_ | rfl)
      | (refine am_retC [] rfl ?_ rfl rfl; first | refine go ?_ | rfl)
      | (refine wkq ?_)
      | (refine am_rs tabOk kOk rfl fun K Q1 hK => ?_; refine go1 ?_)
      | (refine am_reg tabOk kOk rfl fun K Q1 hK => ?_; refine go1 ?_)
      | (refine am_ds mixed tabOk kOk rfl rfl fun K hK => ?_; refine go1 ?_)
      | (refine am_dreg mixed tabOk kOk rfl rfl fun K hK => ?_; refine go1 ?_)
    all_goals try (refine amR_tidy [] [0, 1, 2, 9, 10, 11] 1 rfl ?_; refine go1 ?_; refine ih (k + 1) _ ?_ ?_)
    all_goals first | omega | (clear ih hp; simp only [TV.c.injEq, CV.t.injEq, Tree.v.injEq, Value.bool.injEq]; grind) | (clear ih hp; grind) | (clear ih hp)
set_option maxHeartbeats 16000000 in
theorem risS_tc (l : List Ent) (low high : Int) (hl : l.length ≤ 1048576) : TC Tryd.prog 90 [ro 7 (l.map Ent.tr), int low, int high] [] 1 (bool (risF l low high)) [] 1 := by
  refine tc_intro Tryd.func90 rfl 56 rfl (Nat.le_of_ble_eq_true rfl) (by decide) [6] rfl (by intro id x h; cases h) ?_
  intro w0 E0
  have kOk := k75
  have hp : (l.map Ent.tr).length = l.length := by simp
  refine wk1 ?_
  refine am_tidy [] [0, 1, 2, 7] 1 rfl ?_
  refine go1 ?_
  refine am_loop (l.length + 1) ?_
  suffices key : ∀ (d k : Nat) (lo : Int), k + d = l.length → (k = 0 → lo = low) → (∀ j e, k = j + 1 → l[j]? = some e → e.term = lo) → risF (l.drop k) lo high = risF l low high → amR Tryd.prog _ _ _ (d + 1) ⟨[(0, ro 7 (l.map Ent.tr)), (1, int low), (2, int high), (7, int (k : Nat))], [], 1⟩ from key l.length 0 low (by simp) (fun _ => rfl) (fun j e h => by omega) rfl
  intro d
  induction d with
  | zero =>
    intro k lo hk h0 h1 hf
    refine amR_succ ?_
    rw [List.drop_eq_nil_of_le (by omega)] at hf
    repeat' (fail_if_success (with_reducible apply amR_id)); first
      | (refine guardP_mk (fun h => ?_) (fun h => ?_) <;> (refine go1 ?_; try simp only [decide_eq_true_eq, decide_eq_false_iff_not, Bool.not_true, Bool.not_false, Bool.not_eq_true', Bool.not_eq_false', beq_iff_eq, bne_iff_ne, beq_eq_false_iff_ne, bne_eq_false_iff_eq, ne_eq, Bool.false_eq_true, reduceCtorEq] at h))
      | (refine hK _ ?_; clear hK K Q1)
      | (refine ⟨by first | omega | (simp only [List.length_map, List.length_append, List.length_cons, List.length_nil, List.length_replicate, List.length_drop, List.length_take]; omega), by unfold maxLen; first | omega | (simp only [List.length_map, List.length_append, List.length_cons, List.length_nil, List.length_replicate, List.length_drop, List.length_take]; omega), ?_⟩)
      | (refine hK _ _ rfl ?_; clear hK K; try refine go1 ?_)
      | (refine am_retP rfl ?_ rfl; first | refine go ?_ | rfl)
      | (refine am_retC [] rfl ?_ rfl rfl; first | refine go ?_ | rfl)
      | (refine wkq ?_)
      | (refine am_rs tabOk kOk rfl fun K Q1 hK => ?_; refine go1 ?_)
      | (refine am_reg tabOk kOk rfl fun K Q1 hK => ?_; refine go1 ?_)
      | (refine am_ds mixed tabOk kOk rfl rfl fun K hK => ?_; refine go1 ?_)
      | (refine am_dreg mixed tabOk kOk rfl rfl fun K hK => ?_; refine go1 ?_)
    all_goals first | (exfalso; omega) | (rw [← hf]; rfl)
  | succ d ih =>
    intro k lo hk h0 h1 hf
    obtain ⟨e, he⟩ : ∃ e, l[k]? = some e := ⟨l[k]'(by omega), List.getElem?_eq_getElem (by omega)⟩
    rw [risF_drop he] at hf
    refine amR_succ ?_
    cases k with
    | zero =>
      have hp := (show (l.map Ent.tr).length = l.length ∧ (l.map Ent.tr)[0]? = some e.tr ∧ Int.toNat 0 = 0 ∧ ((0 : Nat) : Int) = 0 ∧ IntKind.i64.wrap (0 + 1) = ((1 : Nat) : Int) ∧ ((0 : Int) == 0) = true ∧ ((0 : Int) > 0) = False from ⟨by simp, by rw [List.getElem?_map, he]; rfl, rfl, rfl, rfl, rfl, by simp⟩)
      have hlo := h0 rfl
      have h2 : ∀ j e', 0 + 1 = j + 1 → l[j]? = some e' → e'.term = e.term := fun j e' h3 h4 => by
        obtain rfl : j = 0 := by omega
        rw [he] at h4; cases h4; rfl
      obtain ⟨t, ⟨a, b, o, x, y, z⟩⟩ := e
      simp only [Ent.tr] at hp
      repeat' (fail_if_success (with_reducible apply amR_id)); first
        | (refine guardP_mk (fun h => ?_) (fun h => ?_) <;> (refine go1 ?_; try simp only [decide_eq_true_eq, decide_eq_false_iff_not, Bool.not_true, Bool.not_false, Bool.not_eq_true', Bool.not_eq_false', beq_iff_eq, bne_iff_ne, beq_eq_false_iff_ne, bne_eq_false_iff_eq, ne_eq, Bool.false_eq_true, reduceCtorEq] at h))
        | (refine hK _ ?_; clear hK K Q1)
        | (refine ⟨by first | omega | (simp only [List.length_map, List.length_append, List.length_cons, List.length_nil, List.length_replicate, List.length_drop, List.length_take]; omega), by unfold maxLen; first | omega | (simp only [List.length_map, List.length_append, List.length_cons, List.length_nil, List.length_replicate, List.length_drop, List.length_take]; omega), ?_⟩)
        | (refine hK _ _ rfl ?_; clear hK K; try refine go1 ?_)
        | (refine am_retP rfl ?_ rfl; first | refine go ?_ | rfl)
        | (refine am_retC [] rfl ?_ rfl rfl; first | refine go ?_ | rfl)
        | (refine wkq ?_)
        | (refine am_rs tabOk kOk rfl fun K Q1 hK => ?_; refine go1 ?_)
        | (refine am_reg tabOk kOk rfl fun K Q1 hK => ?_; refine go1 ?_)
        | (refine am_ds mixed tabOk kOk rfl rfl fun K hK => ?_; refine go1 ?_)
        | (refine am_dreg mixed tabOk kOk rfl rfl fun K hK => ?_; refine go1 ?_)
      all_goals try (refine amR_tidy [] [0, 1, 2, 7] 1 rfl ?_; refine go1 ?_; refine ih 1 _ ?_ ?_ h2 ?_)
      all_goals first | omega | (clear ih hp; simp only [TV.c.injEq, CV.t.injEq, Tree.v.injEq, Value.bool.injEq]; grind) | (clear ih hp; grind) | (clear ih hp)
    | succ k =>
      obtain ⟨e0, he0⟩ : ∃ e, l[k]? = some e := ⟨l[k]'(by omega), List.getElem?_eq_getElem (by omega)⟩
      have hlo := h1 k e0 rfl he0
      have hp := (show (l.map Ent.tr).length = l.length ∧ (l.map Ent.tr)[k + 1]? = some e.tr ∧ (l.map Ent.tr)[k]? = some e0.tr ∧ IntKind.i64.wrap (((k + 1 : Nat) : Int) + 1) = ((k + 1 + 1 : Nat) : Int) ∧ IntKind.i64.wrap (((k + 1 : Nat) : Int) - 1) = (k : Int) ∧ (((k + 1 : Nat) : Int) == 0) = false ∧ (((k + 1 : Nat) : Int) > 0) = True from
        ⟨by simp, by rw [List.getElem?_map, he]; rfl, by rw [List.getElem?_map, he0]; rfl, by rw [wrapN (by omega) (by omega)]; rfl, by rw [wrapN (by omega) (by omega)]; omega, by simp; omega, eq_true (by omega)⟩)
      have h2 : ∀ j e', k + 1 + 1 = j + 1 → l[j]? = some e' → e'.term = e.term := fun j e' h3 h4 => by
        obtain rfl : j = k + 1 := by omega
        rw [he] at h4; cases h4; rfl
      obtain ⟨t, ⟨a, b, o, x, y, z⟩⟩ := e
      obtain ⟨t0, ⟨a0, b0, o0, x0, y0, z0⟩⟩ := e0
      simp only [Ent.tr] at hp
      repeat' (fail_if_success (with_reducible apply amR_id)); first
        | (refine guardP_mk (fun h => ?_) (fun h => ?_) <;> (refine go1 ?_; try simp only [decide_eq_true_eq, decide_eq_false_iff_not, Bool.not_true, Bool.not_false, Bool.not_eq_true', Bool.not_eq_false', beq_iff_eq, bne_iff_ne, beq_eq_false_iff_ne, bne_eq_false_iff_eq, ne_eq, Bool.false_eq_true, reduceCtorEq] at h))
        | (refine hK _ ?_; clear hK K Q1)
        | (refine ⟨by first | omega | (simp only [List.length_map, List.length_append, List.length_cons, List.length_nil, List.length_replicate, List.length_drop, List.length_take]; omega), by unfold maxLen; first | omega | (simp only [List.length_map, List.length_append, List.length_cons, List.length_nil, List.length_replicate, List.length_drop, List.length_take]; omega), ?_⟩)
        | (refine hK _ _ rfl ?_; clear hK K; try refine go1 ?_)
        | (refine am_retP rfl ?_ rfl; first | refine go ?_ | rfl)
        | (refine am_retC [] rfl ?_ rfl rfl; first | refine go ?_ | rfl)
        | (refine wkq ?_)
        | (refine am_rs tabOk kOk rfl fun K Q1 hK => ?_; refine go1 ?_)
        | (refine am_reg tabOk kOk rfl fun K Q1 hK => ?_; refine go1 ?_)
        | (refine am_ds mixed tabOk kOk rfl rfl fun K hK => ?_; refine go1 ?_)
        | (refine am_dreg mixed tabOk kOk rfl rfl fun K hK => ?_; refine go1 ?_)
      all_goals try (refine amR_tidy [] [0, 1, 2, 7] 1 rfl ?_; refine go1 ?_; refine ih (k + 1 + 1) _ ?_ ?_ h2 ?_)
      all_goals first | omega | (clear ih hp; simp only [TV.c.injEq, CV.t.injEq, Tree.v.injEq, Value.bool.injEq]; grind) | (clear ih hp; grind) | (clear ih hp)
def kn76_0_1 (a : Int) (b : Int) (l : List Ent) : Option TV := if l.length ≤ 1048576 then some (bool (risF l a b)) else none
def kn76_0_0 (a : Int) (b : Int) (r0 : List (List Tree)) : Option TV := (unEnts r0).bind (kn76_0_1 a b)
def kn76_0 : List TV → Option TV
  | [.c (.t (.sl 7 r0)), .c (.t (.v (.int .i64 a))), .c (.t (.v (.int .i64 b)))] => kn76_0_0 a b r0
  | _ => none
def kn76_1_1 (a : Int) (b : Int) (l : List Ent) : Option TV := if l.length ≤ 1048576 then some (bool (risF l a b)) else none
def kn76_1_0 (a : Int) (b : Int) (r0 : List (List Tree)) : Option TV := (unEnts r0).bind (kn76_1_1 a b)
def kn76_1 : List TV → Option TV
  | [.c (.t (.sl 7 r0)), .c (.t (.v (.int .i64 a))), .c (.t (.v (.int .i64 b)))] => kn76_1_0 a b r0
  | _ => none
def kn76_call (f : FuncId) (args : List TV) : Option TV := if f = 141 then orO (kn76_0 args) (kn75.call f args) else if f = 90 then orO (kn76_1 args) (kn75.call f args) else kn75.call f args
def kn76 : Kn := { call := kn76_call, eqs := eqTys, callB := kn75.callB }
attribute [go_sem] kn76_0_0 kn76_0_1 kn76_0 kn76_1_0 kn76_1_1 kn76_1 kn76_call kn76
theorem kn76_ok : ∀ f args res, kn76_call f args = some res → TC Tryd.prog f args [] 1 res [] 1 := by
  intro f args res h
  unfold kn76_call at h
  split at h
  · rename_i e; subst e
    have hh := orO_elim h
    clear h
    rcases hh with h | h
    rotate_left
    · exact k75.call _ _ _ h
    unfold kn76_0 at h
    split at h
    · rename_i r0 a b; unfold kn76_0_0 at h
      obtain ⟨l, e0, h⟩ := Option.bind_eq_some_iff.1 h
      unfold kn76_0_1 at h
      split at h
      · rename_i hc; cases h; rw [unEnts_ok e0]; exact risI_tc l a b hc
      · cases h
    · cases h
  split at h
  · rename_i e; subst e
    have hh := orO_elim h
    clear h
    rcases hh with h | h
    rotate_left
    · exact k75.call _ _ _ h
    unfold kn76_1 at h
    split at h
    · rename_i r0 a b; unfold kn76_1_0 at h
      obtain ⟨l, e0, h⟩ := Option.bind_eq_some_iff.1 h
      unfold kn76_1_1 at h
      split at h
      · rename_i hc; cases h; rw [unEnts_ok e0]; exact risS_tc l a b hc
      · cases h
    · cases h
  · exact k75.call f args res h
theorem k76 : KnOk Tryd.prog kn76 := ⟨kn76_ok, eqTysOk, k75.callB⟩
end Go.Proofs.YtaolgdpkcbfocaaDoorA
