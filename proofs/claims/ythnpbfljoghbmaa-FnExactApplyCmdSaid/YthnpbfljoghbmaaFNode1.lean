/- Nodes: entries in order, the settings of a node. -/
import Derived.Test.YthnpbfljoghbmaaFRows
namespace Go.Proofs.YthnpbfljoghbmaaA
open Go.Proofs
set_option autoImplicit false
set_option linter.unusedVariables false
set_option linter.unusedSimpArgs false
set_option maxRecDepth 4000
def entOk (e : Ent) : Bool := decide ((1 ≤ e.term ∧ e.term ≤ 1073741824) ∧ cmF e.m = 0)
theorem entS_tc (c : Ent) : TC Try.prog 111 [.agg c.cv] [] 1 (bool (entOk c)) [] 1 := by
  refine tc_intro Try.func111 rfl 17 rfl (Nat.le_of_ble_eq_true rfl) (by decide) [2] rfl (by intro id x h; cases h) ?_
  intro w0 E0
  have kOk := k11
  obtain ⟨k, ⟨a, q, o, x, y, z⟩⟩ := c
  simp only [Ent.cv, Cm.cv]
  repeat' (fail_if_success (with_reducible apply amR_id)); first
    | (refine guardP_mk (fun h => ?_) (fun h => ?_) <;> (refine go ?_; try simp only [decide_eq_true_eq, decide_eq_false_iff_not, Bool.not_true, Bool.not_false, Bool.not_eq_true', Bool.not_eq_false', beq_iff_eq, bne_iff_ne, beq_eq_false_iff_ne, bne_eq_false_iff_eq, ne_eq, Bool.false_eq_true, reduceCtorEq] at h))
    | (refine hK _ ?_; clear hK K Q1)
    | (refine ⟨by first | omega | (simp only [List.length_map, List.length_append, List.length_cons, List.length_nil, List.length_replicate, List.length_drop, List.length_take]; omega), by unfold maxLen; first | omega | (simp only [List.length_map, List.length_append, List.length_cons, List.length_nil, List.length_replicate, List.length_drop, List.length_take]; omega), ?_⟩)
    | (refine hK _ _ rfl ?_; clear hK K; try refine go ?_)
    | (refine am_retP rfl ?_ rfl; first | refine go ?_ | rfl)
    | (refine am_retC [] rfl ?_ rfl rfl; first | refine go ?_ | rfl)
    | (refine wkp ?_)
    | (refine am_rs tabOk kOk rfl fun K Q1 hK => ?_; refine go ?_)
    | (refine am_reg tabOk kOk rfl fun K Q1 hK => ?_; refine go ?_)
    | (refine am_ds mixed tabOk kOk rfl rfl fun K hK => ?_; refine go ?_)
    | (refine am_dreg mixed tabOk kOk rfl rfl fun K hK => ?_; refine go ?_)
  all_goals (simp only [TV.c.injEq, CV.t.injEq, Tree.v.injEq, Value.bool.injEq]; rw [Bool.eq_iff_iff]; simp only [entOk, decide_eq_true_eq, beq_iff_eq, Bool.false_eq_true, false_iff, true_iff] at *; omega)
theorem entI_tc (c : Ent) : TC Try.prog 113 [.agg c.cv] [] 1 (bool (entOk c)) [] 1 := by
  refine tc_intro Try.func113 rfl 12 rfl (Nat.le_of_ble_eq_true rfl) (by decide) [2] rfl (by intro id x h; cases h) ?_
  intro w0 E0
  have kOk := k11
  obtain ⟨k, ⟨a, q, o, x, y, z⟩⟩ := c
  simp only [Ent.cv, Cm.cv]
  repeat' (fail_if_success (with_reducible apply amR_id)); first
    | (refine guardP_mk (fun h => ?_) (fun h => ?_) <;> (refine go ?_; try simp only [decide_eq_true_eq, decide_eq_false_iff_not, Bool.not_true, Bool.not_false, Bool.not_eq_true', Bool.not_eq_false', beq_iff_eq, bne_iff_ne, beq_eq_false_iff_ne, bne_eq_false_iff_eq, ne_eq, Bool.false_eq_true, reduceCtorEq] at h))
    | (refine hK _ ?_; clear hK K Q1)
    | (refine ⟨by first | omega | (simp only [List.length_map, List.length_append, List.length_cons, List.length_nil, List.length_replicate, List.length_drop, List.length_take]; omega), by unfold maxLen; first | omega | (simp only [List.length_map, List.length_append, List.length_cons, List.length_nil, List.length_replicate, List.length_drop, List.length_take]; omega), ?_⟩)
    | (refine hK _ _ rfl ?_; clear hK K; try refine go ?_)
    | (refine am_retP rfl ?_ rfl; first | refine go ?_ | rfl)
    | (refine am_retC [] rfl ?_ rfl rfl; first | refine go ?_ | rfl)
    | (refine wkp ?_)
    | (refine am_rs tabOk kOk rfl fun K Q1 hK => ?_; refine go ?_)
    | (refine am_reg tabOk kOk rfl fun K Q1 hK => ?_; refine go ?_)
    | (refine am_ds mixed tabOk kOk rfl rfl fun K hK => ?_; refine go ?_)
    | (refine am_dreg mixed tabOk kOk rfl rfl fun K hK => ?_; refine go ?_)
  all_goals (simp only [TV.c.injEq, CV.t.injEq, Tree.v.injEq, Value.bool.injEq]; rw [Bool.eq_iff_iff]; simp only [entOk, inB, decide_eq_true_eq, decide_eq_false_iff_not, beq_iff_eq, Bool.false_eq_true, false_iff, true_iff] at *; omega)
def kn12_0_1 (c : Ent) : Option TV := some (bool (entOk c))
def kn12_0_0 (r0 : List CV) : Option TV := (unEnt r0).bind (kn12_0_1)
def kn12_0 : List TV → Option TV
  | [.agg r0] => kn12_0_0 r0
  | _ => none
def kn12_1_1 (c : Ent) : Option TV := some (bool (entOk c))
def kn12_1_0 (r0 : List CV) : Option TV := (unEnt r0).bind (kn12_1_1)
def kn12_1 : List TV → Option TV
  | [.agg r0] => kn12_1_0 r0
  | _ => none
def kn12_call (f : FuncId) (args : List TV) : Option TV := if f = 111 then orO (kn12_0 args) (kn11.call f args) else if f = 113 then orO (kn12_1 args) (kn11.call f args) else kn11.call f args
def kn12 : Kn := { call := kn12_call, eqs := eqTys, callB := kn11.callB }
attribute [go_sem] kn12_0_0 kn12_0_1 kn12_0 kn12_1_0 kn12_1_1 kn12_1 kn12_call kn12
theorem kn12_ok : ∀ f args res, kn12_call f args = some res → TC Try.prog f args [] 1 res [] 1 := by
  intro f args res h
  unfold kn12_call at h
  split at h
  · rename_i e; subst e
    have hh := orO_elim h
    clear h
    rcases hh with h | h
    rotate_left
    · exact k11.call _ _ _ h
    unfold kn12_0 at h
    split at h
    · rename_i r0; unfold kn12_0_0 at h
      obtain ⟨c, e0, h⟩ := Option.bind_eq_some_iff.1 h
      unfold kn12_0_1 at h
      cases h; rw [unEnt_ok e0]; exact entS_tc c
    · cases h
  split at h
  · rename_i e; subst e
    have hh := orO_elim h
    clear h
    rcases hh with h | h
    rotate_left
    · exact k11.call _ _ _ h
    unfold kn12_1 at h
    split at h
    · rename_i r0; unfold kn12_1_0 at h
      obtain ⟨c, e0, h⟩ := Option.bind_eq_some_iff.1 h
      unfold kn12_1_1 at h
      cases h; rw [unEnt_ok e0]; exact entI_tc c
    · cases h
  · exact k11.call f args res h
theorem k12 : KnOk Try.prog kn12 := ⟨kn12_ok, eqTysOk, k11.callB⟩
end Go.Proofs.YthnpbfljoghbmaaA
