/- Clients step: the specification's step whole. -/
import Derived.Test.YtgalnkilcajgcaaFStepS
namespace Go.Proofs.YtgalnkilcajgcaaA
open Go.Proofs
set_option autoImplicit false
set_option linter.unusedVariables false
set_option linter.unusedSimpArgs false
set_option maxRecDepth 4000
def unRp : List CV → Option Rp
  | [.t (.v (.int .i64 a)), .t (.v (.int .i64 q)), .t (.v (.int .i64 o)), .t (.v (.int .i64 s)), .t (.v (.string v)), .t (.v (.int .i64 g))] => some ⟨a, q, o, s, v, g⟩
  | _ => none
theorem unRp_ok {xs : List CV} {c : Rp} (h : unRp xs = some c) : xs = c.cv := by
  unfold unRp at h
  split at h
  · cases h; rfl
  · cases h
def unCl : List CV → Option Cl
  | [.t (.v (.int .i64 i)), .t (.v (.int .i64 n)), .t (.v (.int .i64 p)), .t (.v (.int .i64 q)), .t (.v (.int .i64 s)), .t (.v (.int .i64 t)), .t (.v (.int .i64 k)), .t (.v (.int .i64 a)), .t (.v (.int .i64 b)), .t (.v (.int .i64 o)), .t (.v (.string x)), .t (.v (.string y)), .t (.v (.string z))] => some ⟨i, n, p, q, s, t, k, ⟨a, b, o, x, y, z⟩⟩
  | _ => none
theorem unCl_ok {xs : List CV} {c : Cl} (h : unCl xs = some c) : xs = c.cv := by
  unfold unCl at h
  split at h
  · cases h; rfl
  · cases h
def rpK (r : Rp) : Option TV := some (int (rpF r))
def kRp : List TV → Option TV
  | [.agg xs] => (unRp xs).bind rpK
  | _ => none
def call3 (f : FuncId) (args : List TV) : Option TV := if f = 192 then kRp args else call2 f args
def kn3 : Kn := { call := call3, eqs := eqTys }
attribute [go_sem] unRp unCl rpK kRp call3 kn3
theorem call3_ok : ∀ f args res, call3 f args = some res → TC Try.prog f args [] 1 res [] 1 := by
  intro f args res h
  unfold call3 at h
  split at h
  · rename_i e; subst e
    unfold kRp at h
    split at h
    · obtain ⟨c, h1, h2⟩ := Option.bind_eq_some_iff.1 h
      cases h2; rw [unRp_ok h1]; exact rpS_tc c
    · cases h
  · exact call2_ok f args res h
theorem k3 : KnOk Try.prog kn3 := ⟨call3_ok, eqTysOk, (fun f args o r o1 n h => by cases h)⟩
set_option maxHeartbeats 8000000 in
theorem hearS_tc (c : Cl) (r : Rp) (hn : c.n ≠ 0) : TC Try.prog 94 [.agg c.cv, .agg r.cv] [] 1 (.agg (hearF c r).cv) [] 1 := by
  refine tc_cell tabOk Try.func94 rfl 67 rfl (Nat.le_of_ble_eq_true rfl) (by decide) [(4, some 31)] rfl (by intro id x h; cases h) ?_
  intro w0 E0
  have kOk := k3
  obtain ⟨i, n, p, q, s, t, k, ⟨a, b, o, x, y, z⟩⟩ := c
  obtain ⟨rc, rq, rk, rr, rv, rg⟩ := r
  have hp : (n = 0) = False := eq_false hn
  simp only [Cl.cv, Cm.cv, Rp.cv]
  repeat' (fail_if_success (with_reducible apply amR_id)); first
    | (refine guardP_mk (fun h => ?_) (fun h => ?_) <;> (refine go1 ?_; try simp only [decide_eq_true_eq, decide_eq_false_iff_not, Bool.not_true, Bool.not_false, Bool.not_eq_true', Bool.not_eq_false', beq_iff_eq, bne_iff_ne, beq_eq_false_iff_ne, bne_eq_false_iff_eq, ne_eq, Bool.false_eq_true, reduceCtorEq] at h))
    | (refine hK _ ?_; clear hK K Q1)
    | (refine hK _ _ rfl ?_; clear hK K; try refine go1 ?_)
    | (refine am_retC [] rfl ?_ rfl rfl; first | refine go ?_ | rfl)
    | (refine wkq ?_)
    | (refine am_rs tabOk kOk rfl fun K Q1 hK => ?_; refine go1 ?_)
    | (refine am_ds mixed tabOk kOk rfl rfl fun K hK => ?_; refine go1 ?_)
    | (refine am_dreg mixed tabOk kOk rfl rfl fun K hK => ?_; refine go1 ?_)
  all_goals simp only [inB, decide_eq_true_eq, decide_eq_false_iff_not] at *
  all_goals first | (exfalso; omega) | (simp (disch := omega) only [hearF, nextF, if_pos, if_neg, An.cv, Cl.cv, Cm.cv, cm0])
def cl0 : Cl := ⟨0, 0, 0, 0, 0, 0, 0, cm0⟩
structure Ev where
  k : Int
  m : Cm
  r : Rp
def Ev.cv (e : Ev) : List CV := ci e.k :: (e.m.cv ++ e.r.cv)
def stepF (c : Cl) (e : Ev) : An :=
  if clF c = false then ⟨9, 0, 0, cl0⟩
  else if e.k = 1 then askF c e.m else if e.k = 2 then pokeF c else if e.k = 3 then hearF c e.r else ⟨8, 0, 0, c⟩
def clK (c : Cl) : Option TV := some (bool (clF c))
def kCl : List TV → Option TV
  | [.agg xs] => (unCl xs).bind clK
  | _ => none
def askK1 (c : Cl) (m : Cm) : Option TV := some (.agg (askF c m).cv)
def askK (ys : List CV) (c : Cl) : Option TV := (unCm ys).bind (askK1 c)
def kAsk : List TV → Option TV
  | [.agg xs, .agg ys] => (unCl xs).bind (askK ys)
  | _ => none
def pokeK (c : Cl) : Option TV := if c.n = 0 then none else some (.agg (pokeF c).cv)
def kPoke : List TV → Option TV
  | [.agg xs] => (unCl xs).bind pokeK
  | _ => none
def hearK1 (c : Cl) (r : Rp) : Option TV := if c.n = 0 then none else some (.agg (hearF c r).cv)
def hearK (ys : List CV) (c : Cl) : Option TV := (unRp ys).bind (hearK1 c)
def kHear : List TV → Option TV
  | [.agg xs, .agg ys] => (unCl xs).bind (hearK ys)
  | _ => none
def call4 (f : FuncId) (args : List TV) : Option TV := if f = 91 then kCl args else if f = 95 then kCl args else if f = 92 then kAsk args else if f = 93 then kPoke args else if f = 94 then kHear args else call3 f args
def kn4 : Kn := { call := call4, eqs := eqTys }
attribute [go_sem] clK kCl askK1 askK kAsk pokeK kPoke hearK1 hearK kHear call4 kn4
theorem call4_ok : ∀ f args res, call4 f args = some res → TC Try.prog f args [] 1 res [] 1 := by
  intro f args res h
  unfold call4 at h
  split at h
  · rename_i e; subst e
    unfold kCl at h
    split at h
    · obtain ⟨c, h1, h2⟩ := Option.bind_eq_some_iff.1 h
      cases h2; rw [unCl_ok h1]; exact clS_tc c
    · cases h
  split at h
  · rename_i e; subst e
    unfold kCl at h
    split at h
    · obtain ⟨c, h1, h2⟩ := Option.bind_eq_some_iff.1 h
      cases h2; rw [unCl_ok h1]; exact clI_tc c
    · cases h
  split at h
  · rename_i e; subst e
    unfold kAsk at h
    split at h
    · obtain ⟨c, h1, h2⟩ := Option.bind_eq_some_iff.1 h
      obtain ⟨m, h3, h4⟩ := Option.bind_eq_some_iff.1 h2
      cases h4; rw [unCl_ok h1, unCm_ok h3]; exact ask_tc c m
    · cases h
  split at h
  · rename_i e; subst e
    unfold kPoke at h
    split at h
    · obtain ⟨c, h1, h2⟩ := Option.bind_eq_some_iff.1 h
      unfold pokeK at h2
      split at h2
      · cases h2
      · rename_i hn; cases h2; rw [unCl_ok h1]; exact poke_tc c hn
    · cases h
  split at h
  · rename_i e; subst e
    unfold kHear at h
    split at h
    · obtain ⟨c, h1, h2⟩ := Option.bind_eq_some_iff.1 h
      obtain ⟨m, h3, h4⟩ := Option.bind_eq_some_iff.1 h2
      unfold hearK1 at h4
      split at h4
      · cases h4
      · rename_i hn; cases h4; rw [unCl_ok h1, unRp_ok h3]; exact hearS_tc c m hn
    · cases h
  · exact call3_ok f args res h
theorem k4 : KnOk Try.prog kn4 := ⟨call4_ok, eqTysOk, (fun f args o r o1 n h => by cases h)⟩
attribute [go_sem] An.cv Cl.cv Cm.cv
theorem clF_n {c : Cl} (h : c.n = 0) : clF c = false := by
  simp only [clF, decide_eq_false_iff_not]
  omega
set_option maxHeartbeats 8000000 in
theorem stepS_tc (c : Cl) (e : Ev) : TC Try.prog 15 [.agg c.cv, .agg e.cv] [] 1 (.agg (stepF c e).cv) [] 1 := by
  refine tc_cell tabOk Try.func15 rfl 30 rfl (Nat.le_of_ble_eq_true rfl) (by decide) [(4, some 31)] rfl (by intro id x h; cases h) ?_
  intro w0 E0
  have kOk := k4
  by_cases hn : c.n = 0
  · have hp := clF_n hn
    obtain ⟨i, n, p, q, s, t, k, ⟨a, b, o, x, y, z⟩⟩ := c
    obtain ⟨ek, ⟨ma, mb, mo, mx, my, mz⟩, ⟨rc, rq, rk, rr, rv, rg⟩⟩ := e
    simp only [Cl.cv, Cm.cv, Rp.cv, Ev.cv]
    repeat' (fail_if_success (with_reducible apply amR_id)); first
      | (refine guardP_mk (fun h => ?_) (fun h => ?_) <;> (refine go1 ?_; try simp only [decide_eq_true_eq, decide_eq_false_iff_not, Bool.not_true, Bool.not_false, Bool.not_eq_true', Bool.not_eq_false', beq_iff_eq, bne_iff_ne, beq_eq_false_iff_ne, bne_eq_false_iff_eq, ne_eq, Bool.false_eq_true, reduceCtorEq] at h))
      | (refine hK _ ?_; clear hK K Q1)
      | (refine hK _ _ rfl ?_; clear hK K; try refine go1 ?_)
      | (refine am_retC [] rfl ?_ rfl rfl; first | refine go ?_ | rfl)
      | (refine wkq ?_)
      | (refine am_rs tabOk kOk rfl fun K Q1 hK => ?_; refine go1 ?_)
      | (refine am_ds mixed tabOk kOk rfl rfl fun K hK => ?_; refine go1 ?_)
      | (refine am_dreg mixed tabOk kOk rfl rfl fun K hK => ?_; refine go1 ?_)
    all_goals first | (simp_all [stepF, cl0, cm0]; done) | (exfalso; omega)
  · have hp : (c.n = 0) = False := eq_false hn
    obtain ⟨i, n, p, q, s, t, k, ⟨a, b, o, x, y, z⟩⟩ := c
    obtain ⟨ek, ⟨ma, mb, mo, mx, my, mz⟩, ⟨rc, rq, rk, rr, rv, rg⟩⟩ := e
    simp only [Cl.cv, Cm.cv, Rp.cv, Ev.cv]
    repeat' (fail_if_success (with_reducible apply amR_id)); first
      | (refine guardP_mk (fun h => ?_) (fun h => ?_) <;> (refine go1 ?_; try simp only [decide_eq_true_eq, decide_eq_false_iff_not, Bool.not_true, Bool.not_false, Bool.not_eq_true', Bool.not_eq_false', beq_iff_eq, bne_iff_ne, beq_eq_false_iff_ne, bne_eq_false_iff_eq, ne_eq, Bool.false_eq_true, reduceCtorEq] at h))
      | (refine hK _ ?_; clear hK K Q1)
      | (refine hK _ _ rfl ?_; clear hK K; try refine go1 ?_)
      | (refine am_retC [] rfl ?_ rfl rfl; first | refine go ?_ | rfl)
      | (refine wkq ?_)
      | (refine am_rs tabOk kOk rfl fun K Q1 hK => ?_; refine go1 ?_)
      | (refine am_ds mixed tabOk kOk rfl rfl fun K hK => ?_; refine go1 ?_)
      | (refine am_dreg mixed tabOk kOk rfl rfl fun K hK => ?_; refine go1 ?_)
    all_goals first | (simp_all [stepF, cl0, cm0]; done) | (exfalso; omega)
def unEv : List CV → Option Ev
  | [.t (.v (.int .i64 k)), .t (.v (.int .i64 a)), .t (.v (.int .i64 b)), .t (.v (.int .i64 o)), .t (.v (.string x)), .t (.v (.string y)), .t (.v (.string z)), .t (.v (.int .i64 ra)), .t (.v (.int .i64 rq)), .t (.v (.int .i64 ro)), .t (.v (.int .i64 rs)), .t (.v (.string rv)), .t (.v (.int .i64 rg))] => some ⟨k, ⟨a, b, o, x, y, z⟩, ⟨ra, rq, ro, rs, rv, rg⟩⟩
  | _ => none
theorem unEv_ok {xs : List CV} {c : Ev} (h : unEv xs = some c) : xs = c.cv := by
  unfold unEv at h
  split at h
  · cases h; rfl
  · cases h
attribute [go_sem] unEv Ev.cv
end Go.Proofs.YtgalnkilcajgcaaA
