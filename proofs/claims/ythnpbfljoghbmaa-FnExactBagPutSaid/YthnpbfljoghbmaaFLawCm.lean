/- Commands: the laws' own functions for them. -/
import Derived.Test.YthnpbfljoghbmaaCCm
import Derived.Test.YthnpbfljoghbmaaFOpen
namespace Go.Proofs.YthnpbfljoghbmaaA
open Go.Proofs
set_option autoImplicit false
set_option linter.unusedVariables false
set_option linter.unusedSimpArgs false
set_option maxRecDepth 4000
deriving instance DecidableEq for Cm
theorem toCm_tc (c : Cm) : TC Try.prog 55 [.agg c.cv] [] 1 (.agg c.cv) [] 1 := by
  refine tc_cell tabOk Try.func55 rfl 23 rfl (Nat.le_of_ble_eq_true rfl) (by decide) [(2, some 97)] rfl (by intro id x h; cases h) ?_
  intro w0 E0
  have kOk := k2
  obtain ⟨a, q, o, x, y, z⟩ := c
  simp only [Cm.cv]
  repeat' (fail_if_success (with_reducible apply amR_id)); first
    | (refine guardP_mk (fun h => ?_) (fun h => ?_) <;> (refine go ?_; try simp only [decide_eq_true_eq, decide_eq_false_iff_not, Bool.not_true, Bool.not_false, Bool.not_eq_true', Bool.not_eq_false', beq_iff_eq, bne_iff_ne, beq_eq_false_iff_ne, bne_eq_false_iff_eq, ne_eq, Bool.false_eq_true, reduceCtorEq] at h))
    | (refine hK _ ?_; clear hK K Q1)
    | (refine ⟨by first | omega | (simp only [List.length_map, List.length_append, List.length_cons, List.length_nil, List.length_replicate, List.length_drop, List.length_take]; omega), by unfold maxLen; first | omega | (simp only [List.length_map, List.length_append, List.length_cons, List.length_nil, List.length_replicate, List.length_drop, List.length_take]; omega), ?_⟩)
    | (refine hK _ _ rfl ?_; clear hK K; try refine go ?_)
    | (refine am_retP rfl ?_ rfl; first | refine go ?_ | rfl)
    | (refine am_retC [] rfl ?_ rfl rfl; first | refine go ?_ | rfl)
    | (refine wkp ?_)
    | (refine am_rs tabOk kOk rfl fun K Q1 hK => ?_; refine go ?_)
    | (refine am_reg tabOk kOk rfl fun K Q1 hK => ?_; refine go ?_)
    | (refine am_ds mixed tabOk kOk rfl rfl fun K hK => ?_; refine go ?_)
    | (refine am_dreg mixed tabOk kOk rfl rfl fun K hK => ?_; refine go ?_)
  all_goals rfl
/-- What is left of a bulk. -/
def lft (left : Int) (n : Nat) : Int := if IntKind.i64.wrap (left - n) < 0 then -1 else IntKind.i64.wrap (left - n)
def szCmF (c : Cm) (left : Int) : Int := if lft left c.k.size < 0 then -1 else if lft (lft left c.k.size) c.v.size < 0 then -1 else lft (lft (lft left c.k.size) c.v.size) c.o.size
theorem szCm_tc (c : Cm) (left : Int) : TC Try.prog 52 [.agg c.cv, int left] [] 1 (int (szCmF c left)) [] 1 := by
  refine tc_intro Try.func52 rfl 27 rfl (Nat.le_of_ble_eq_true rfl) (by decide) [4] rfl (by intro id x h; cases h) ?_
  intro w0 E0
  have kOk := k2
  obtain ⟨a, q, o, x, y, z⟩ := c
  simp only [Cm.cv]
  repeat' (fail_if_success (with_reducible apply amR_id)); first
    | (refine guardP_mk (fun h => ?_) (fun h => ?_) <;> (refine go ?_; try simp only [decide_eq_true_eq, decide_eq_false_iff_not, Bool.not_true, Bool.not_false, Bool.not_eq_true', Bool.not_eq_false', beq_iff_eq, bne_iff_ne, beq_eq_false_iff_ne, bne_eq_false_iff_eq, ne_eq, Bool.false_eq_true, reduceCtorEq] at h))
    | (refine hK _ ?_; clear hK K Q1)
    | (refine ⟨by first | omega | (simp only [List.length_map, List.length_append, List.length_cons, List.length_nil, List.length_replicate, List.length_drop, List.length_take]; omega), by unfold maxLen; first | omega | (simp only [List.length_map, List.length_append, List.length_cons, List.length_nil, List.length_replicate, List.length_drop, List.length_take]; omega), ?_⟩)
    | (refine hK _ _ rfl ?_; clear hK K; try refine go ?_)
    | (refine am_retP rfl ?_ rfl; first | refine go ?_ | rfl)
    | (refine am_retC [] rfl ?_ rfl rfl; first | refine go ?_ | rfl)
    | (refine wkp ?_)
    | (refine am_rs tabOk kOk rfl fun K Q1 hK => ?_; refine go ?_)
    | (refine am_reg tabOk kOk rfl fun K Q1 hK => ?_; refine go ?_)
    | (refine am_ds mixed tabOk kOk rfl rfl fun K hK => ?_; refine go ?_)
    | (refine am_dreg mixed tabOk kOk rfl rfl fun K hK => ?_; refine go ?_)
  all_goals (simp only [szCmF, lft]; simp (disch := omega) only [if_pos, if_neg]; try rfl)
set_option maxHeartbeats 8000000 in
theorem eqCm_tc (c d : Cm) : TC Try.prog 109 [.agg c.cv, .agg d.cv] [] 1 (bool (decide (c = d))) [] 1 := by
  refine tc_intro Try.func109 rfl 35 rfl (Nat.le_of_ble_eq_true rfl) (by decide) [4] rfl (by intro id x h; cases h) ?_
  intro w0 E0
  have kOk := k2
  obtain ⟨a, q, o, x, y, z⟩ := c
  obtain ⟨a', q', o', x', y', z'⟩ := d
  simp only [Cm.cv]
  repeat' (fail_if_success (with_reducible apply amR_id)); first
    | (refine guardP_mk (fun h => ?_) (fun h => ?_) <;> (refine go ?_; try simp only [decide_eq_true_eq, decide_eq_false_iff_not, Bool.not_true, Bool.not_false, Bool.not_eq_true', Bool.not_eq_false', beq_iff_eq, bne_iff_ne, beq_eq_false_iff_ne, bne_eq_false_iff_eq, ne_eq, Bool.false_eq_true, reduceCtorEq] at h))
    | (refine hK _ ?_; clear hK K Q1)
    | (refine ⟨by first | omega | (simp only [List.length_map, List.length_append, List.length_cons, List.length_nil, List.length_replicate, List.length_drop, List.length_take]; omega), by unfold maxLen; first | omega | (simp only [List.length_map, List.length_append, List.length_cons, List.length_nil, List.length_replicate, List.length_drop, List.length_take]; omega), ?_⟩)
    | (refine hK _ _ rfl ?_; clear hK K; try refine go ?_)
    | (refine am_retP rfl ?_ rfl; first | refine go ?_ | rfl)
    | (refine am_retC [] rfl ?_ rfl rfl; first | refine go ?_ | rfl)
    | (refine wkp ?_)
    | (refine am_rs tabOk kOk rfl fun K Q1 hK => ?_; refine go ?_)
    | (refine am_reg tabOk kOk rfl fun K Q1 hK => ?_; refine go ?_)
    | (refine am_ds mixed tabOk kOk rfl rfl fun K hK => ?_; refine go ?_)
    | (refine am_dreg mixed tabOk kOk rfl rfl fun K hK => ?_; refine go ?_)
  all_goals simp_all
def knC_0_1 (c : Cm) : Option TV := some (.agg c.cv)
def knC_0_0 (r0 : List CV) : Option TV := (unCm r0).bind (knC_0_1)
def knC_0 : List TV → Option TV
  | [.agg r0] => knC_0_0 r0
  | _ => none
def knC_1_1 (n : Int) (c : Cm) : Option TV := some (int (szCmF c n))
def knC_1_0 (n : Int) (r0 : List CV) : Option TV := (unCm r0).bind (knC_1_1 n)
def knC_1 : List TV → Option TV
  | [.agg r0, .c (.t (.v (.int .i64 n)))] => knC_1_0 n r0
  | _ => none
def knC_2_2 (c : Cm) (d : Cm) : Option TV := some (bool (decide (c = d)))
def knC_2_1 (r1 : List CV) (c : Cm) : Option TV := (unCm r1).bind (knC_2_2 c)
def knC_2_0 (r0 : List CV) (r1 : List CV) : Option TV := (unCm r0).bind (knC_2_1 r1)
def knC_2 : List TV → Option TV
  | [.agg r0, .agg r1] => knC_2_0 r0 r1
  | _ => none
def knC_call (f : FuncId) (args : List TV) : Option TV := if f = 55 then orO (knC_0 args) (kn2.call f args) else if f = 52 then orO (knC_1 args) (kn2.call f args) else if f = 109 then orO (knC_2 args) (kn2.call f args) else kn2.call f args
def knC : Kn := { call := knC_call, eqs := eqTys, callB := kn2.callB }
attribute [go_sem] knC_0_0 knC_0_1 knC_0 knC_1_0 knC_1_1 knC_1 knC_2_0 knC_2_1 knC_2_2 knC_2 knC_call knC
theorem knC_ok : ∀ f args res, knC_call f args = some res → TC Try.prog f args [] 1 res [] 1 := by
  intro f args res h
  unfold knC_call at h
  split at h
  · rename_i e; subst e
    have hh := orO_elim h
    clear h
    rcases hh with h | h
    rotate_left
    · exact k2.call _ _ _ h
    unfold knC_0 at h
    split at h
    · rename_i r0; unfold knC_0_0 at h
      obtain ⟨c, e0, h⟩ := Option.bind_eq_some_iff.1 h
      unfold knC_0_1 at h
      cases h; rw [unCm_ok e0]; exact toCm_tc c
    · cases h
  split at h
  · rename_i e; subst e
    have hh := orO_elim h
    clear h
    rcases hh with h | h
    rotate_left
    · exact k2.call _ _ _ h
    unfold knC_1 at h
    split at h
    · rename_i r0 n; unfold knC_1_0 at h
      obtain ⟨c, e0, h⟩ := Option.bind_eq_some_iff.1 h
      unfold knC_1_1 at h
      cases h; rw [unCm_ok e0]; exact szCm_tc c n
    · cases h
  split at h
  · rename_i e; subst e
    have hh := orO_elim h
    clear h
    rcases hh with h | h
    rotate_left
    · exact k2.call _ _ _ h
    unfold knC_2 at h
    split at h
    · rename_i r0 r1; unfold knC_2_0 at h
      obtain ⟨c, e0, h⟩ := Option.bind_eq_some_iff.1 h
      unfold knC_2_1 at h
      obtain ⟨d, e1, h⟩ := Option.bind_eq_some_iff.1 h
      unfold knC_2_2 at h
      cases h; rw [unCm_ok e0, unCm_ok e1]; exact eqCm_tc c d
    · cases h
  · exact k2.call f args res h
theorem kC : KnOk Try.prog knC := ⟨knC_ok, eqTysOk, k2.callB⟩
attribute [go_sem] Cm.cv
end Go.Proofs.YthnpbfljoghbmaaA
