/- Replies' faults. -/
import Derived.Test.YtgalnkilcajgcaaFStepI
namespace Go.Proofs.YtgalnkilcajgcaaA
open Go.Proofs
set_option autoImplicit false
set_option linter.unusedVariables false
set_option linter.unusedSimpArgs false
set_option maxRecDepth 4000
set_option maxHeartbeats 8000000 in
theorem rpI_tc (r : Rp) : TC Try.prog 195 [.c (.ptr 1 0)] [(1, .cells r.cv)] 2 (int (rpF r)) [(1, .cells r.cv)] 2 := by
  refine tc_intro Try.func195 rfl 70 rfl (Nat.le_of_ble_eq_true rfl) (by decide) [2] rfl dom1 ?_
  intro w0 E0
  have kOk := k5
  obtain ⟨c, q, k, s, v, g⟩ := r
  simp only [Rp.cv]
  repeat' (fail_if_success (with_reducible apply amR_id)); first
    | (refine guardP_mk (fun h => ?_) (fun h => ?_) <;> (refine go ?_; try simp only [decide_eq_true_eq, decide_eq_false_iff_not, Bool.not_true, Bool.not_false, Bool.not_eq_true', Bool.not_eq_false', beq_iff_eq, bne_iff_ne, beq_eq_false_iff_ne, bne_eq_false_iff_eq, ne_eq, Bool.false_eq_true, reduceCtorEq] at h))
    | (refine hK _ ?_; clear hK K Q1)
    | (refine hK _ _ rfl ?_; clear hK K; try refine go ?_)
    | (refine am_retB [(1, 1)] rfl ?_ ?_ rfl <;> first | refine go ?_ | rfl)
    | (refine ret_norm [(1, 1)] rfl ?_ ?_ <;> first | refine go ?_ | rfl)
    | (refine wkp ?_)
    | (refine am_rs tabOk kOk rfl fun K Q1 hK => ?_; refine go ?_)
    | (refine am_ds mixed tabOk kOk rfl rfl fun K hK => ?_; refine go ?_)
    | (refine am_dreg mixed tabOk kOk rfl rfl fun K hK => ?_; refine go ?_)
  all_goals (simp only [fb, inB, rpF, decide_eq_true_eq, decide_eq_false_iff_not, beq_iff_eq, bempty, TV.c.injEq, CV.t.injEq, Tree.v.injEq, Value.int.injEq, true_and, if_true, Bool.false_eq_true, if_false] at *; (repeat' split) <;> omega)
def unRpO : List (Nat × AObj) → Option Rp
  | [(1, .cells l)] => unRp l
  | _ => none
theorem unRpO_ok {o : List (Nat × AObj)} {r : Rp} (h : unRpO o = some r) : o = [(1, .cells r.cv)] := by
  unfold unRpO at h
  split at h
  · rw [unRp_ok h]
  · cases h
def faultK (r : Rp) : CB := some (int (rpF r), [(1, .cells r.cv)], 2)
def kFault : List TV → List (Nat × AObj) → CB
  | [.c (.ptr 1 0)], o => (unRpO o).bind faultK
  | _, _ => none
def callB6 (f : FuncId) (args : List TV) (o : List (Nat × AObj)) : CB := if f = 195 then kFault args o else callB5 f args o
def kn6 : Kn := { call := call4, eqs := eqTys, callB := callB6 }
attribute [go_sem] unRpO faultK kFault callB6 kn6 Rp.cv
theorem callB6_ok : ∀ f args o res o1 n1, callB6 f args o = some (res, o1, n1) → TC Try.prog f args o (o.length + 1) res o1 n1 := by
  intro f args o res o1 n1 h
  unfold callB6 at h
  split at h
  · rename_i e; subst e
    unfold kFault at h
    split at h
    · obtain ⟨r, h1, h2⟩ := Option.bind_eq_some_iff.1 h
      cases h2; rw [unRpO_ok h1]; exact rpI_tc r
    · cases h
  · exact callB5_ok f args o res o1 n1 h
theorem k6 : KnOk Try.prog kn6 := ⟨call4_ok, eqTysOk, callB6_ok⟩
set_option maxHeartbeats 8000000 in
theorem hearI_tc (c : Cl) (r : Rp) (hn : c.n ≠ 0) : TC Try.prog 98 [.c (.ptr 1 3), .agg r.cv] (inAn 8 0 0 c) 2 (.tup [int (hearF c r).code, int (hearF c r).send, int (hearF c r).done]) (inAn 8 0 0 (hearF c r).c) 2 := by
  refine tc_intro Try.func98 rfl 79 rfl (Nat.le_of_ble_eq_true rfl) (by decide) [4, 5, 6] rfl dom1 ?_
  intro w0 E0
  have kOk := k6
  obtain ⟨i, n, p, q, s, t, k, ⟨a, b, o, x, y, z⟩⟩ := c
  obtain ⟨rc, rq, rk, rr, rv, rg⟩ := r
  have hp : (n = 0) = False := eq_false hn
  simp only [inAn, Cl.cv, Cm.cv, Rp.cv]
  repeat' (fail_if_success (with_reducible apply amR_id)); first
    | (refine guardP_mk (fun h => ?_) (fun h => ?_) <;> (refine go1 ?_; try simp only [decide_eq_true_eq, decide_eq_false_iff_not, Bool.not_true, Bool.not_false, Bool.not_eq_true', Bool.not_eq_false', beq_iff_eq, bne_iff_ne, beq_eq_false_iff_ne, bne_eq_false_iff_eq, ne_eq, Bool.false_eq_true, reduceCtorEq] at h))
    | (refine hK _ ?_; clear hK K Q1)
    | (refine hK _ _ rfl ?_; clear hK K; try refine go1 ?_)
    | (refine am_retB [(1, 1)] rfl ?_ ?_ rfl <;> first | refine go ?_ | rfl)
    | (refine ret_norm [(1, 1)] rfl ?_ ?_ <;> first | refine go ?_ | rfl)
    | (refine wkq ?_)
    | (refine am_rs tabOk kOk rfl fun K Q1 hK => ?_; refine go1 ?_)
    | (refine am_ds mixed tabOk kOk rfl rfl fun K hK => ?_; refine go1 ?_)
    | (refine am_dreg mixed tabOk kOk rfl rfl fun K hK => ?_; refine go1 ?_)
  all_goals simp only [inB, decide_eq_true_eq, decide_eq_false_iff_not] at *
  all_goals first | (exfalso; omega) | (simp (disch := omega) only [hearF, nextF, if_pos, if_neg, An.cv, Cl.cv, Cm.cv, cm0])
end Go.Proofs.YtgalnkilcajgcaaA
