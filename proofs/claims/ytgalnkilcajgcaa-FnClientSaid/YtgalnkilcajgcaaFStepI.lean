/- Clients step: the implementation's. -/
import Derived.Test.YtgalnkilcajgcaaFStepS2
import Derived.Test.YtgalnkilcajgcaaFOpen
namespace Go.Proofs.YtgalnkilcajgcaaA
open Go.Proofs
set_option autoImplicit false
set_option linter.unusedVariables false
set_option linter.unusedSimpArgs false
set_option maxRecDepth 4000
/-- A client that lies in an answer, behind three numbers. -/
def inAn (u v w : Int) (c : Cl) : List (Nat × AObj) := [(1, .cells (ci u :: ci v :: ci w :: c.cv))]
set_option maxHeartbeats 8000000 in
theorem next_tc (u v w : Int) (c : Cl) (hn : c.n ≠ 0) : TC Try.prog 194 [.c (.ptr 1 3)] (inAn u v w c) 2 (.tup []) (inAn u v w { c with to := nextF c }) 2 := by
  refine tc_intro Try.func194 rfl 15 rfl (Nat.le_of_ble_eq_true rfl) (by decide) [] rfl dom1 ?_
  intro w0 E0
  have kOk := k4
  obtain ⟨i, n, p, q, s, t, k, ⟨a, b, o, x, y, z⟩⟩ := c
  have hp : (n = 0) = False := eq_false hn
  simp only [inAn, Cl.cv, Cm.cv]
  repeat' (fail_if_success (with_reducible apply amR_id)); first
    | (refine guardP_mk (fun h => ?_) (fun h => ?_) <;> (refine go1 ?_; try simp only [decide_eq_true_eq, decide_eq_false_iff_not, Bool.not_true, Bool.not_false, Bool.not_eq_true', Bool.not_eq_false', beq_iff_eq, bne_iff_ne, beq_eq_false_iff_ne, bne_eq_false_iff_eq, ne_eq, Bool.false_eq_true, reduceCtorEq] at h))
    | (refine hK _ ?_; clear hK K Q1)
    | (refine hK _ _ rfl ?_; clear hK K; try refine go1 ?_)
    | (refine am_retB [(1, 1)] rfl ?_ ?_ rfl <;> first | refine go ?_ | rfl)
    | (refine ret_norm [(1, 1)] rfl ?_ ?_ <;> first | refine go ?_ | rfl)
    | (refine wkq ?_)
    | (refine am_rs tabOk kOk rfl fun K Q1 hK => ?_; refine go1 ?_)
    | (refine am_ds mixed tabOk kOk rfl rfl fun K hK => ?_; refine go1 ?_)
    | (refine am_dreg mixed tabOk kOk rfl rfl fun K hK => ?_; refine go1 ?_)
  all_goals rfl
def unIn : List (Nat × AObj) → Option (Int × Int × Int × Cl)
  | [(1, .cells (.t (.v (.int .i64 u)) :: .t (.v (.int .i64 v)) :: .t (.v (.int .i64 w)) :: l))] => (unCl l).map fun c => (u, v, w, c)
  | _ => none
theorem unIn_ok {o : List (Nat × AObj)} {u v w : Int} {c : Cl} (h : unIn o = some (u, v, w, c)) : o = inAn u v w c := by
  unfold unIn at h
  split at h
  · rename_i l
    cases hc : unCl l with
    | none => rw [hc] at h; cases h
    | some c' => rw [hc] at h; cases h; rw [unCl_ok hc]; rfl
  · cases h
def nextK (p : Int × Int × Int × Cl) : CB := if p.2.2.2.n = 0 then none else some (.tup [], inAn p.1 p.2.1 p.2.2.1 { p.2.2.2 with to := nextF p.2.2.2 }, 2)
def kNext : List TV → List (Nat × AObj) → CB
  | [.c (.ptr 1 3)], o => (unIn o).bind nextK
  | _, _ => none
def callB5 (f : FuncId) (args : List TV) (o : List (Nat × AObj)) : CB := if f = 194 then kNext args o else none
def kn5 : Kn := { call := call4, eqs := eqTys, callB := callB5 }
attribute [go_sem] unIn nextK kNext callB5 kn5 inAn
theorem inAn_len (u v w : Int) (c : Cl) : (inAn u v w c).length = 1 := rfl
theorem callB5_ok : ∀ f args o res o1 n1, callB5 f args o = some (res, o1, n1) → TC Try.prog f args o (o.length + 1) res o1 n1 := by
  intro f args o res o1 n1 h
  unfold callB5 at h
  split at h
  · rename_i e; subst e
    unfold kNext at h
    split at h
    · obtain ⟨⟨u, v, w, c⟩, h1, h2⟩ := Option.bind_eq_some_iff.1 h
      unfold nextK at h2
      split at h2
      · cases h2
      · rename_i hn; cases h2; rw [unIn_ok h1]; exact next_tc u v w c hn
    · cases h
  · cases h
theorem k5 : KnOk Try.prog kn5 := ⟨call4_ok, eqTysOk, callB5_ok⟩
set_option maxHeartbeats 8000000 in
theorem pokeI_tc (c : Cl) (hn : c.n ≠ 0) : TC Try.prog 97 [.c (.ptr 1 3)] (inAn 8 0 0 c) 2 (.tup [int (pokeF c).code, int (pokeF c).send]) (inAn 8 0 0 (pokeF c).c) 2 := by
  refine tc_intro Try.func97 rfl 34 rfl (Nat.le_of_ble_eq_true rfl) (by decide) [2, 3] rfl dom1 ?_
  intro w0 E0
  have kOk := k5
  obtain ⟨i, n, p, q, s, t, k, ⟨a, b, o, x, y, z⟩⟩ := c
  have hp : (n = 0) = False := eq_false hn
  simp only [inAn, Cl.cv, Cm.cv]
  repeat' (fail_if_success (with_reducible apply amR_id)); first
    | (refine guardP_mk (fun h => ?_) (fun h => ?_) <;> (refine go1 ?_; try simp only [decide_eq_true_eq, decide_eq_false_iff_not, Bool.not_true, Bool.not_false, Bool.not_eq_true', Bool.not_eq_false', beq_iff_eq, bne_iff_ne, beq_eq_false_iff_ne, bne_eq_false_iff_eq, ne_eq, Bool.false_eq_true, reduceCtorEq] at h))
    | (refine hK _ ?_; clear hK K Q1)
    | (refine hK _ _ rfl ?_; clear hK K; try refine go1 ?_)
    | (refine am_retB [(1, 1)] rfl ?_ ?_ rfl <;> first | refine go ?_ | rfl)
    | (refine ret_norm [(1, 1)] rfl ?_ ?_ <;> first | refine go ?_ | rfl)
    | (refine wkq ?_)
    | (refine am_rs tabOk kOk rfl fun K Q1 hK => ?_; refine go1 ?_)
    | (refine am_ds mixed tabOk kOk rfl rfl fun K hK => ?_; refine go1 ?_)
    | (refine am_dreg mixed tabOk kOk rfl rfl fun K hK => ?_; refine go1 ?_)
  all_goals first | (exfalso; omega) | (simp (disch := omega) only [pokeF, nextF, if_pos, if_neg, An.cv, Cl.cv])
set_option maxHeartbeats 8000000 in
theorem askI_tc (c : Cl) (m : Cm) : TC Try.prog 96 [.c (.ptr 1 3), .agg m.cv] (inAn 8 0 0 c) 2 (.tup [int (askF c m).code, int (askF c m).send]) (inAn 8 0 0 (askF c m).c) 2 := by
  refine tc_intro Try.func96 rfl 56 rfl (Nat.le_of_ble_eq_true rfl) (by decide) [4, 5] rfl dom1 ?_
  intro w0 E0
  have kOk := k5
  obtain ⟨i, n, p, q, s, t, k, ⟨a, b, o, x, y, z⟩⟩ := c
  obtain ⟨a', b', o', x', y', z'⟩ := m
  simp only [inAn, Cl.cv, Cm.cv]
  repeat' (fail_if_success (with_reducible apply amR_id)); first
    | (refine guardP_mk (fun h => ?_) (fun h => ?_) <;> (refine go ?_; try simp only [decide_eq_true_eq, decide_eq_false_iff_not, Bool.not_true, Bool.not_false, Bool.not_eq_true', Bool.not_eq_false', beq_iff_eq, bne_iff_ne, beq_eq_false_iff_ne, bne_eq_false_iff_eq, ne_eq, Bool.false_eq_true, reduceCtorEq] at h))
    | (refine hK _ ?_; clear hK K Q1)
    | (refine hK _ _ rfl ?_; clear hK K; try refine go ?_)
    | (refine am_retB [(1, 1)] rfl ?_ ?_ rfl <;> first | refine go ?_ | rfl)
    | (refine ret_norm [(1, 1)] rfl ?_ ?_ <;> first | refine go ?_ | rfl)
    | (refine wkp ?_)
    | (refine am_rs tabOk kOk rfl fun K Q1 hK => ?_; refine go ?_)
    | (refine am_ds mixed tabOk kOk rfl rfl fun K hK => ?_; refine go ?_)
    | (refine am_dreg mixed tabOk kOk rfl rfl fun K hK => ?_; refine go ?_)
  all_goals first | (exfalso; omega) | (simp_all [askF, askM, An.cv, Cl.cv]; done)
end Go.Proofs.YtgalnkilcajgcaaA
