/- Bags: addresses, routes. -/
import Derived.Test.YthnpbfljoghbmaaBWall
import Derived.Test.YthnpbfljoghbmaaFCmd
import Derived.Test.YthnpbfljoghbmaaFOpen
import Derived.Test.YthnpbfljoghbmaaFNum
namespace Go.Proofs.YthnpbfljoghbmaaA
open Go.Proofs
set_option autoImplicit false
set_option linter.unusedVariables false
set_option linter.unusedSimpArgs false
set_option maxRecDepth 4000
def kb1_0_0 (a : Int) (lo : Int) (hi : Int) : Option TV := some (bool (inB a lo hi))
def kb1_0 : List TV → Option TV
  | [.c (.t (.v (.int .i64 a))), .c (.t (.v (.int .i64 lo))), .c (.t (.v (.int .i64 hi)))] => kb1_0_0 a lo hi
  | _ => none
def kb1_call (f : FuncId) (args : List TV) : Option TV := if f = 86 then orO (kb1_0 args) (kn1.call f args) else kn1.call f args
def kb1 : Kn := { call := kb1_call, eqs := eqTys, callB := kn1.callB }
attribute [go_sem] kb1_0_0 kb1_0 kb1_call kb1
theorem kb1_ok : ∀ f args res, kb1_call f args = some res → TC Try.prog f args [] 1 res [] 1 := by
  intro f args res h
  unfold kb1_call at h
  split at h
  · rename_i e; subst e
    have hh := orO_elim h
    clear h
    rcases hh with h | h
    rotate_left
    · exact k1.call _ _ _ h
    unfold kb1_0 at h
    split at h
    · rename_i a lo hi; unfold kb1_0_0 at h
      cases h; exact within_tc a lo hi
    · cases h
  · exact k1.call f args res h
theorem kB1 : KnOk Try.prog kb1 := ⟨kb1_ok, eqTysOk, k1.callB⟩
def adB (a : Int) : Bool := inB a 1 7 || inB a 11 18
theorem adr_tc (a : Int) : TC Try.prog 136 [int a] [] 1 (bool (adB a)) [] 1 := by
  refine tc_intro Try.func136 rfl 9 rfl (Nat.le_of_ble_eq_true rfl) (by decide) [2] rfl (by intro id x h; cases h) ?_
  intro w0 E0
  have kOk := kB1
  repeat' (fail_if_success (with_reducible apply amR_id)); first
    | (refine guardP_mk (fun h => ?_) (fun h => ?_) <;> (refine go ?_; try simp only [decide_eq_true_eq, decide_eq_false_iff_not, Bool.not_true, Bool.not_false, Bool.not_eq_true', Bool.not_eq_false', beq_iff_eq, bne_iff_ne, beq_eq_false_iff_ne, bne_eq_false_iff_eq, ne_eq, Bool.false_eq_true, reduceCtorEq] at h))
    | (refine hK _ ?_; clear hK K Q1)
    | (refine ⟨by first | omega | (simp only [List.length_map, List.length_append, List.length_cons, List.length_nil, List.length_replicate, List.length_drop, List.length_take]; omega), by unfold maxLen; first | omega | (simp only [List.length_map, List.length_append, List.length_cons, List.length_nil, List.length_replicate, List.length_drop, List.length_take]; omega), ?_⟩)
    | (refine hK _ _ rfl ?_; clear hK K; try refine go ?_)
    | (refine am_retP rfl ?_ rfl; first | refine go ?_ | rfl)
    | (refine am_retC [] rfl ?_ rfl rfl; first | refine go ?_ | rfl)
    | (refine wkp ?_)
    | (refine am_rs tabOk kOk rfl fun K Q1 hK => ?_; refine go ?_)
    | (refine am_reg tabOk kOk rfl fun K Q1 hK => ?_; refine go ?_)
    | (refine am_ds mixed tabOk kOk rfl rfl fun K hK => ?_; refine go ?_)
    | (refine am_dreg mixed tabOk kOk rfl rfl fun K hK => ?_; refine go ?_)
  all_goals (simp only [TV.c.injEq, CV.t.injEq, Tree.v.injEq, Value.bool.injEq, adB] at *; grind)
def kb2_0_0 (a : Int) : Option TV := some (bool (adB a))
def kb2_0 : List TV → Option TV
  | [.c (.t (.v (.int .i64 a)))] => kb2_0_0 a
  | _ => none
def kb2_call (f : FuncId) (args : List TV) : Option TV := if f = 136 then orO (kb2_0 args) (kb1.call f args) else kb1.call f args
def kb2 : Kn := { call := kb2_call, eqs := eqTys, callB := kb1.callB }
attribute [go_sem] kb2_0_0 kb2_0 kb2_call kb2
theorem kb2_ok : ∀ f args res, kb2_call f args = some res → TC Try.prog f args [] 1 res [] 1 := by
  intro f args res h
  unfold kb2_call at h
  split at h
  · rename_i e; subst e
    have hh := orO_elim h
    clear h
    rcases hh with h | h
    rotate_left
    · exact kB1.call _ _ _ h
    unfold kb2_0 at h
    split at h
    · rename_i a; unfold kb2_0_0 at h
      cases h; exact adr_tc a
    · cases h
  · exact kB1.call f args res h
theorem kB2 : KnOk Try.prog kb2 := ⟨kb2_ok, eqTysOk, kB1.callB⟩
def rtB (f t : Int) (n : Nat) : Bool := adB f && adB t && (f != t) && inB n 1 16384
theorem route_tc (f t : Int) (l : List Int) : TC Try.prog 73 [int f, int t, ro 1 (l.map bTr)] [] 1 (bool (rtB f t l.length)) [] 1 := by
  refine tc_intro Try.func73 rfl 23 rfl (Nat.le_of_ble_eq_true rfl) (by decide) [6] rfl (by intro id x h; cases h) ?_
  intro w0 E0
  have kOk := kB2
  have hp : (l.map bTr).length = l.length := by simp
  repeat' (fail_if_success (with_reducible apply amR_id)); first
    | (refine guardP_mk (fun h => ?_) (fun h => ?_) <;> (refine go1 ?_; try simp only [decide_eq_true_eq, decide_eq_false_iff_not, Bool.not_true, Bool.not_false, Bool.not_eq_true', Bool.not_eq_false', beq_iff_eq, bne_iff_ne, beq_eq_false_iff_ne, bne_eq_false_iff_eq, ne_eq, Bool.false_eq_true, reduceCtorEq] at h))
    | (refine hK _ ?_; clear hK K Q1)
    | (refine ⟨by first | omega | (simp only [List.length_map, List.length_append, List.length_cons, List.length_nil, List.length_replicate, List.length_drop, List.length_take]; omega), by unfold maxLen; first | omega | (simp only [List.length_map, List.length_append, List.length_cons, List.length_nil, List.length_replicate, List.length_drop, List.length_take]; omega), ?_⟩)
    | (refine hK _ _ rfl ?_; clear hK K; try refine go1 ?_)
    | (refine am_retP rfl ?_ rfl; first | refine go ?_ | rfl)
    | (refine am_retC [] rfl ?_ rfl rfl; first | refine go ?_ | rfl)
    | (refine wkq ?_)
    | (refine am_rs tabOk kOk rfl fun K Q1 hK => ?_; refine go1 ?_)
    | (refine am_reg tabOk kOk rfl fun K Q1 hK => ?_; refine go1 ?_)
    | (refine am_ds mixed tabOk kOk rfl rfl fun K hK => ?_; refine go1 ?_)
    | (refine am_dreg mixed tabOk kOk rfl rfl fun K hK => ?_; refine go1 ?_)
  all_goals (clear hp; simp only [TV.c.injEq, CV.t.injEq, Tree.v.injEq, Value.bool.injEq, rtB] at *; grind)
end Go.Proofs.YthnpbfljoghbmaaA
