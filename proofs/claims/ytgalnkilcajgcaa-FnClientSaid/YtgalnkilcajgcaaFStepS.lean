/- Clients step: what the specification reckons. -/
import Derived.Test.YtgalnkilcajgcaaFClient
namespace Go.Proofs.YtgalnkilcajgcaaA
open Go.Proofs
set_option autoImplicit false
set_option linter.unusedVariables false
set_option linter.unusedSimpArgs false
set_option maxRecDepth 4000
structure An where
  code : Int
  send : Int
  done : Int
  c : Cl
def An.cv (x : An) : List CV := ci x.code :: ci x.send :: ci x.done :: x.c.cv
def cm0 : Cm := ⟨0, 0, 0, ⟨#[]⟩, ⟨#[]⟩, ⟨#[]⟩⟩
/-- The command that a client writes into what it is asked. -/
def askM (c : Cl) (m : Cm) : Cm := { m with cl := c.id, sq := IntKind.i64.wrap (c.sq + 1) }
def askF (c : Cl) (m : Cm) : An :=
  if c.st = 1 ∨ c.sq = 1073741824 then ⟨1, 0, 0, c⟩
  else if cmF (askM c m) ≠ 0 ∨ m.op = 0 then ⟨2, 0, 0, c⟩
  else ⟨0, c.to, 0, { c with sq := IntKind.i64.wrap (c.sq + 1), st := 1, tk := 0, cmd := askM c m }⟩
def nextF (c : Cl) : Int := IntKind.i64.wrap (Int.tmod c.to c.n + 1)
def pokeF (c : Cl) : An :=
  if c.st = 0 then ⟨3, 0, 0, c⟩
  else if IntKind.i64.wrap (c.tk + 1) < c.pat then ⟨0, 0, 0, { c with tk := IntKind.i64.wrap (c.tk + 1) }⟩
  else ⟨0, nextF c, 0, { c with tk := 0, to := nextF c }⟩
set_option maxHeartbeats 8000000 in
theorem ask_tc (c : Cl) (m : Cm) : TC Try.prog 92 [.agg c.cv, .agg m.cv] [] 1 (.agg (askF c m).cv) [] 1 := by
  refine tc_cell tabOk Try.func92 rfl 44 rfl (Nat.le_of_ble_eq_true rfl) (by decide) [(4, some 31)] rfl (by intro id x h; cases h) ?_
  intro w0 E0
  have kOk := k2
  obtain ⟨i, n, p, q, s, t, k, ⟨a, b, o, x, y, z⟩⟩ := c
  obtain ⟨a', b', o', x', y', z'⟩ := m
  simp only [Cl.cv, Cm.cv]
  repeat' (fail_if_success (with_reducible apply amR_id)); first
    | (refine guardP_mk (fun h => ?_) (fun h => ?_) <;> (refine go ?_; try simp only [decide_eq_true_eq, decide_eq_false_iff_not, Bool.not_true, Bool.not_false, Bool.not_eq_true', Bool.not_eq_false', beq_iff_eq, bne_iff_ne, beq_eq_false_iff_ne, bne_eq_false_iff_eq, ne_eq, Bool.false_eq_true, reduceCtorEq] at h))
    | (refine hK _ ?_; clear hK K Q1)
    | (refine hK _ _ rfl ?_; clear hK K; try refine go ?_)
    | (refine am_retC [] rfl ?_ rfl rfl; first | refine go ?_ | rfl)
    | (refine wkp ?_)
    | (refine am_rs tabOk kOk rfl fun K Q1 hK => ?_; refine go ?_)
    | (refine am_ds mixed tabOk kOk rfl rfl fun K hK => ?_; refine go ?_)
    | (refine am_dreg mixed tabOk kOk rfl rfl fun K hK => ?_; refine go ?_)
  all_goals first | (exfalso; omega) | (simp_all [askF, askM, An.cv, Cl.cv]; done)
set_option maxHeartbeats 8000000 in
theorem poke_tc (c : Cl) (hn : c.n ≠ 0) : TC Try.prog 93 [.agg c.cv] [] 1 (.agg (pokeF c).cv) [] 1 := by
  refine tc_cell tabOk Try.func93 rfl 31 rfl (Nat.le_of_ble_eq_true rfl) (by decide) [(2, some 31)] rfl (by intro id x h; cases h) ?_
  intro w0 E0
  have kOk := k2
  obtain ⟨i, n, p, q, s, t, k, ⟨a, b, o, x, y, z⟩⟩ := c
  have hp : (n = 0) = False := eq_false hn
  simp only [Cl.cv, Cm.cv]
  repeat' (fail_if_success (with_reducible apply amR_id)); first
    | (refine guardP_mk (fun h => ?_) (fun h => ?_) <;> (refine go1 ?_; try simp only [decide_eq_true_eq, decide_eq_false_iff_not, Bool.not_true, Bool.not_false, Bool.not_eq_true', Bool.not_eq_false', beq_iff_eq, bne_iff_ne, beq_eq_false_iff_ne, bne_eq_false_iff_eq, ne_eq, Bool.false_eq_true, reduceCtorEq] at h))
    | (refine hK _ ?_; clear hK K Q1)
    | (refine hK _ _ rfl ?_; clear hK K; try refine go1 ?_)
    | (refine am_retC [] rfl ?_ rfl rfl; first | refine go ?_ | rfl)
    | (refine wkq ?_)
    | (refine am_rs tabOk kOk rfl fun K Q1 hK => ?_; refine go1 ?_)
    | (refine am_ds mixed tabOk kOk rfl rfl fun K hK => ?_; refine go1 ?_)
    | (refine am_dreg mixed tabOk kOk rfl rfl fun K hK => ?_; refine go1 ?_)
  all_goals first | (exfalso; omega) | (simp (disch := omega) only [pokeF, nextF, if_pos, if_neg, An.cv, Cl.cv])
/-! ### Replies -/
structure Rp where
  cl : Int
  sq : Int
  kd : Int
  rs : Int
  v : ByteArray
  hint : Int
def Rp.cv (r : Rp) : List CV := [ci r.cl, ci r.sq, ci r.kd, ci r.rs, cs r.v, ci r.hint]
def rpF (r : Rp) : Int :=
  if ¬ (1 ≤ r.cl ∧ r.cl ≤ 8) then 1 else if ¬ (1 ≤ r.sq ∧ r.sq ≤ 1073741824) then 2 else if ¬ (1 ≤ r.kd ∧ r.kd ≤ 2) then 3
  else if (r.kd = 1 ∧ ¬ (1 ≤ r.rs ∧ r.rs ≤ 4)) ∨ (r.kd ≠ 1 ∧ r.rs ≠ 0) then 4
  else if 64 < r.v.size ∨ (r.kd ≠ 1 ∧ 0 < r.v.size) then 5
  else if (r.kd = 1 ∧ r.hint ≠ 0) ∨ ¬ (0 ≤ r.hint ∧ r.hint ≤ 7) then 6 else 0
set_option maxHeartbeats 8000000 in
theorem rpS_tc (r : Rp) : TC Try.prog 192 [.agg r.cv] [] 1 (int (rpF r)) [] 1 := by
  refine tc_intro Try.func192 rfl 61 rfl (Nat.le_of_ble_eq_true rfl) (by decide) [2] rfl (by intro id x h; cases h) ?_
  intro w0 E0
  have kOk := k2
  obtain ⟨c, q, k, s, v, g⟩ := r
  simp only [Rp.cv]
  repeat' (fail_if_success (with_reducible apply amR_id)); first
    | (refine guardP_mk (fun h => ?_) (fun h => ?_) <;> (refine go ?_; try simp only [decide_eq_true_eq, decide_eq_false_iff_not, Bool.not_true, Bool.not_false, Bool.not_eq_true', Bool.not_eq_false', beq_iff_eq, bne_iff_ne, beq_eq_false_iff_ne, bne_eq_false_iff_eq, ne_eq, Bool.false_eq_true, reduceCtorEq] at h))
    | (refine hK _ ?_; clear hK K Q1)
    | (refine hK _ _ rfl ?_; clear hK K; try refine go ?_)
    | (refine am_retP rfl ?_ rfl; first | refine go ?_ | rfl)
    | (refine am_retC [] rfl ?_ rfl rfl; first | refine go ?_ | rfl)
    | (refine wkp ?_)
    | (refine am_rs tabOk kOk rfl fun K Q1 hK => ?_; refine go ?_)
    | (refine am_ds mixed tabOk kOk rfl rfl fun K hK => ?_; refine go ?_)
    | (refine am_dreg mixed tabOk kOk rfl rfl fun K hK => ?_; refine go ?_)
  all_goals simp only [inB, decide_eq_true_eq, decide_eq_false_iff_not] at *
  all_goals first | (exfalso; omega) | simp (disch := omega) only [rpF, if_pos, if_neg]
def hearF (c : Cl) (r : Rp) : An :=
  if rpF r ≠ 0 then ⟨2, 0, 0, c⟩
  else if c.st = 0 ∨ r.cl ≠ c.id ∨ r.sq ≠ c.sq then ⟨3, 0, 0, c⟩
  else if r.kd = 1 then ⟨0, 0, 1, { c with st := 0, tk := 0, cmd := cm0 }⟩
  else if (1 ≤ r.hint ∧ r.hint ≤ c.n) ∧ r.hint ≠ c.to then ⟨0, r.hint, 0, { c with to := r.hint, tk := 0 }⟩
  else ⟨0, 0, 0, { c with to := nextF c }⟩
end Go.Proofs.YtgalnkilcajgcaaA
