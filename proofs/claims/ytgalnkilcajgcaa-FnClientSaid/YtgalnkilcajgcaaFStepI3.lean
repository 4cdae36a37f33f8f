/- Clients step: the implementation's step whole. -/
import Derived.Test.YtgalnkilcajgcaaFStepI2
namespace Go.Proofs.YtgalnkilcajgcaaA
open Go.Proofs
set_option autoImplicit false
set_option linter.unusedVariables false
set_option linter.unusedSimpArgs false
set_option maxRecDepth 4000
def askIK (m : Cm) (p : Int × Int × Int × Cl) : CB := if p.1 = 8 ∧ p.2.1 = 0 ∧ p.2.2.1 = 0 then some (.tup [int (askF p.2.2.2 m).code, int (askF p.2.2.2 m).send], inAn 8 0 0 (askF p.2.2.2 m).c, 2) else none
def askIK0 (o : List (Nat × AObj)) (m : Cm) : CB := (unIn o).bind (askIK m)
def kAskI : List TV → List (Nat × AObj) → CB
  | [.c (.ptr 1 3), .agg ys], o => (unCm ys).bind (askIK0 o)
  | _, _ => none
def pokeIK (p : Int × Int × Int × Cl) : CB := if p.1 = 8 ∧ p.2.1 = 0 ∧ p.2.2.1 = 0 then if p.2.2.2.n = 0 then none else some (.tup [int (pokeF p.2.2.2).code, int (pokeF p.2.2.2).send], inAn 8 0 0 (pokeF p.2.2.2).c, 2) else none
def kPokeI : List TV → List (Nat × AObj) → CB
  | [.c (.ptr 1 3)], o => (unIn o).bind pokeIK
  | _, _ => none
def hearIK (r : Rp) (p : Int × Int × Int × Cl) : CB := if p.1 = 8 ∧ p.2.1 = 0 ∧ p.2.2.1 = 0 then if p.2.2.2.n = 0 then none else some (.tup [int (hearF p.2.2.2 r).code, int (hearF p.2.2.2 r).send, int (hearF p.2.2.2 r).done], inAn 8 0 0 (hearF p.2.2.2 r).c, 2) else none
def hearIK0 (o : List (Nat × AObj)) (r : Rp) : CB := (unIn o).bind (hearIK r)
def kHearI : List TV → List (Nat × AObj) → CB
  | [.c (.ptr 1 3), .agg ys], o => (unRp ys).bind (hearIK0 o)
  | _, _ => none
def callB7 (f : FuncId) (args : List TV) (o : List (Nat × AObj)) : CB := if f = 96 then kAskI args o else if f = 97 then kPokeI args o else if f = 98 then kHearI args o else callB6 f args o
def kn7 : Kn := { call := call4, eqs := eqTys, callB := callB7 }
attribute [go_sem] askIK askIK0 kAskI pokeIK kPokeI hearIK hearIK0 kHearI callB7 kn7
theorem callB7_ok : ∀ f args o res o1 n1, callB7 f args o = some (res, o1, n1) → TC Try.prog f args o (o.length + 1) res o1 n1 := by
  intro f args o res o1 n1 h
  unfold callB7 at h
  split at h
  · rename_i e; subst e
    unfold kAskI at h
    split at h
    · obtain ⟨m, h1, h2⟩ := Option.bind_eq_some_iff.1 h
      obtain ⟨⟨u, v, w, c⟩, h3, h4⟩ := Option.bind_eq_some_iff.1 h2
      unfold askIK at h4
      split at h4
      · rename_i e; obtain ⟨rfl, rfl, rfl⟩ := e; cases h4; rw [unIn_ok h3, unCm_ok h1]; exact askI_tc c m
      · cases h4
    · cases h
  split at h
  · rename_i e; subst e
    unfold kPokeI at h
    split at h
    · obtain ⟨⟨u, v, w, c⟩, h3, h4⟩ := Option.bind_eq_some_iff.1 h
      unfold pokeIK at h4
      split at h4
      · split at h4
        · cases h4
        · rename_i e hn; obtain ⟨rfl, rfl, rfl⟩ := e; cases h4; rw [unIn_ok h3]; exact pokeI_tc c hn
      · cases h4
    · cases h
  split at h
  · rename_i e; subst e
    unfold kHearI at h
    split at h
    · obtain ⟨m, h1, h2⟩ := Option.bind_eq_some_iff.1 h
      obtain ⟨⟨u, v, w, c⟩, h3, h4⟩ := Option.bind_eq_some_iff.1 h2
      unfold hearIK at h4
      split at h4
      · split at h4
        · cases h4
        · rename_i e hn; obtain ⟨rfl, rfl, rfl⟩ := e; cases h4; rw [unIn_ok h3, unRp_ok h1]; exact hearI_tc c m hn
      · cases h4
    · cases h
  · exact callB6_ok f args o res o1 n1 h
theorem k7 : KnOk Try.prog kn7 := ⟨call4_ok, eqTysOk, callB7_ok⟩
theorem askF_done (c : Cl) (m : Cm) : (askF c m).done = 0 := by
  unfold askF
  (repeat' split) <;> rfl
theorem pokeF_done (c : Cl) : (pokeF c).done = 0 := by
  unfold pokeF
  (repeat' split) <;> rfl
set_option maxHeartbeats 8000000 in
theorem stepI_tc (c : Cl) (e : Ev) : TC Try.prog 16 [.agg c.cv, .agg e.cv] [] 1 (.agg (stepF c e).cv) [] 1 := by
  refine tc_cell tabOk Try.func16 rfl 48 rfl (Nat.le_of_ble_eq_true rfl) (by decide) [(4, some 31)] rfl (by intro id x h; cases h) ?_
  intro w0 E0
  have kOk := k7
  by_cases hn : c.n = 0
  · have hp := clF_n hn
    obtain ⟨i, n, p, q, s, t, k, ⟨a, b, o, x, y, z⟩⟩ := c
    obtain ⟨ek, ⟨ma, mb, mo, mx, my, mz⟩, ⟨rc, rq, rk, rr, rv, rg⟩⟩ := e
    simp only [Cl.cv, Cm.cv, Rp.cv, Ev.cv]
    repeat' (fail_if_success (with_reducible apply amR_id)); first
      | (refine guardP_mk (fun h => ?_) (fun h => ?_) <;> (refine go1 ?_; try simp only [decide_eq_true_eq, decide_eq_false_iff_not, Bool.not_true, Bool.not_false, Bool.not_eq_true', Bool.not_eq_false', beq_iff_eq, bne_iff_ne, beq_eq_false_iff_ne, bne_eq_false_iff_eq, ne_eq, Bool.false_eq_true, reduceCtorEq] at h))
      | (refine hK _ ?_; clear hK K Q1)
      | (refine hK _ _ rfl ?_; clear hK K; try refine go1 ?_)
      | (refine am_retC [] rfl ?_ rfl rfl; first | refine go ?_ | rfl)
      | (refine wkq ?_)
      | (refine am_rs tabOk kOk rfl fun K Q1 hK => ?_; refine go1 ?_)
      | (refine am_ds mixed tabOk kOk rfl rfl fun K hK => ?_; refine go1 ?_)
      | (refine am_dreg mixed tabOk kOk rfl rfl fun K hK => ?_; refine go1 ?_)
    all_goals first | (simp_all [stepF, cl0, cm0, askF_done, pokeF_done]; done) | (exfalso; omega)
  · have hp : (c.n = 0) = False := eq_false hn
    obtain ⟨i, n, p, q, s, t, k, ⟨a, b, o, x, y, z⟩⟩ := c
    obtain ⟨ek, ⟨ma, mb, mo, mx, my, mz⟩, ⟨rc, rq, rk, rr, rv, rg⟩⟩ := e
    simp only [Cl.cv, Cm.cv, Rp.cv, Ev.cv]
    repeat' (fail_if_success (with_reducible apply amR_id)); first
      | (refine guardP_mk (fun h => ?_) (fun h => ?_) <;> (refine go1 ?_; try simp only [decide_eq_true_eq, decide_eq_false_iff_not, Bool.not_true, Bool.not_false, Bool.not_eq_true', Bool.not_eq_false', beq_iff_eq, bne_iff_ne, beq_eq_false_iff_ne, bne_eq_false_iff_eq, ne_eq, Bool.false_eq_true, reduceCtorEq] at h))
      | (refine hK _ ?_; clear hK K Q1)
      | (refine hK _ _ rfl ?_; clear hK K; try refine go1 ?_)
      | (refine am_retC [] rfl ?_ rfl rfl; first | refine go ?_ | rfl)
      | (refine wkq ?_)
      | (refine am_rs tabOk kOk rfl fun K Q1 hK => ?_; refine go1 ?_)
      | (refine am_ds mixed tabOk kOk rfl rfl fun K hK => ?_; refine go1 ?_)
      | (refine am_dreg mixed tabOk kOk rfl rfl fun K hK => ?_; refine go1 ?_)
    all_goals first | (simp_all [stepF, cl0, cm0, askF_done, pokeF_done]; done) | (exfalso; omega)
end Go.Proofs.YtgalnkilcajgcaaA
