/- Clients step: the law's own functions. -/
import Derived.Test.YtgalnkilcajgcaaFStepI3
import Derived.Test.YtgalnkilcajgcaaFLawCm
namespace Go.Proofs.YtgalnkilcajgcaaA
open Go.Proofs
set_option autoImplicit false
set_option linter.unusedVariables false
set_option linter.unusedSimpArgs false
set_option maxRecDepth 4000
deriving instance DecidableEq for Cl
deriving instance DecidableEq for An
deriving instance DecidableEq for Rp
theorem toRp_tc (c : Rp) : TC Try.prog 100 [.agg c.cv] [] 1 (.agg c.cv) [] 1 := by
  refine tc_cell tabOk Try.func100 rfl 23 rfl (Nat.le_of_ble_eq_true rfl) (by decide) [(2, some 34)] rfl (by intro id x h; cases h) ?_
  intro w0 E0
  have kOk := k7
  obtain ⟨a, q, o, x, y, z⟩ := c
  simp only [Rp.cv]
  repeat' (fail_if_success (with_reducible apply amR_id)); first
    | (refine guardP_mk (fun h => ?_) (fun h => ?_) <;> (refine go ?_; try simp only [decide_eq_true_eq, decide_eq_false_iff_not, Bool.not_true, Bool.not_false, Bool.not_eq_true', Bool.not_eq_false', beq_iff_eq, bne_iff_ne, beq_eq_false_iff_ne, bne_eq_false_iff_eq, ne_eq, Bool.false_eq_true, reduceCtorEq] at h))
    | (refine hK _ ?_; clear hK K Q1)
    | (refine hK _ _ rfl ?_; clear hK K; try refine go ?_)
    | (refine am_retP rfl ?_ rfl; first | refine go ?_ | rfl)
    | (refine am_retC [] rfl ?_ rfl rfl; first | refine go ?_ | rfl)
    | (refine wkp ?_)
    | (refine am_rs tabOk kOk rfl fun K Q1 hK => ?_; refine go ?_)
    | (refine am_ds mixed tabOk kOk rfl rfl fun K hK => ?_; refine go ?_)
    | (refine am_dreg mixed tabOk kOk rfl rfl fun K hK => ?_; refine go ?_)
  all_goals rfl
theorem szRp_tc (c : Rp) (left : Int) : TC Try.prog 99 [.agg c.cv, int left] [] 1 (int (lft left c.v.size)) [] 1 := by
  refine tc_intro Try.func99 rfl 13 rfl (Nat.le_of_ble_eq_true rfl) (by decide) [4] rfl (by intro id x h; cases h) ?_
  intro w0 E0
  have kOk := k7
  obtain ⟨a, q, o, x, y, z⟩ := c
  simp only [Rp.cv]
  repeat' (fail_if_success (with_reducible apply amR_id)); first
    | (refine guardP_mk (fun h => ?_) (fun h => ?_) <;> (refine go ?_; try simp only [decide_eq_true_eq, decide_eq_false_iff_not, Bool.not_true, Bool.not_false, Bool.not_eq_true', Bool.not_eq_false', beq_iff_eq, bne_iff_ne, beq_eq_false_iff_ne, bne_eq_false_iff_eq, ne_eq, Bool.false_eq_true, reduceCtorEq] at h))
    | (refine hK _ ?_; clear hK K Q1)
    | (refine hK _ _ rfl ?_; clear hK K; try refine go ?_)
    | (refine am_retP rfl ?_ rfl; first | refine go ?_ | rfl)
    | (refine am_retC [] rfl ?_ rfl rfl; first | refine go ?_ | rfl)
    | (refine wkp ?_)
    | (refine am_rs tabOk kOk rfl fun K Q1 hK => ?_; refine go ?_)
    | (refine am_ds mixed tabOk kOk rfl rfl fun K hK => ?_; refine go ?_)
    | (refine am_dreg mixed tabOk kOk rfl rfl fun K hK => ?_; refine go ?_)
  all_goals (simp only [szCmF, lft]; simp (disch := omega) only [if_pos, if_neg]; try rfl)
def kn8_0_1 (c : Cm) : Option TV := some (.agg c.cv)
def kn8_0_0 (r0 : List CV) : Option TV := (unCm r0).bind (kn8_0_1)
def kn8_0 : List TV → Option TV
  | [.agg r0] => kn8_0_0 r0
  | _ => none
def kn8_1_1 (c : Rp) : Option TV := some (.agg c.cv)
def kn8_1_0 (r0 : List CV) : Option TV := (unRp r0).bind (kn8_1_1)
def kn8_1 : List TV → Option TV
  | [.agg r0] => kn8_1_0 r0
  | _ => none
def kn8_2_1 (n : Int) (c : Cm) : Option TV := some (int (szCmF c n))
def kn8_2_0 (n : Int) (r0 : List CV) : Option TV := (unCm r0).bind (kn8_2_1 n)
def kn8_2 : List TV → Option TV
  | [.agg r0, .c (.t (.v (.int .i64 n)))] => kn8_2_0 n r0
  | _ => none
def kn8_3_1 (n : Int) (c : Rp) : Option TV := some (int (lft n c.v.size))
def kn8_3_0 (n : Int) (r0 : List CV) : Option TV := (unRp r0).bind (kn8_3_1 n)
def kn8_3 : List TV → Option TV
  | [.agg r0, .c (.t (.v (.int .i64 n)))] => kn8_3_0 n r0
  | _ => none
def kn8_4_2 (c : Cm) (d : Cm) : Option TV := some (bool (decide (c = d)))
def kn8_4_1 (r1 : List CV) (c : Cm) : Option TV := (unCm r1).bind (kn8_4_2 c)
def kn8_4_0 (r0 : List CV) (r1 : List CV) : Option TV := (unCm r0).bind (kn8_4_1 r1)
def kn8_4 : List TV → Option TV
  | [.agg r0, .agg r1] => kn8_4_0 r0 r1
  | _ => none
def kn8_call (f : FuncId) (args : List TV) : Option TV := if f = 80 then orO (kn8_0 args) (kn7.call f args) else if f = 100 then orO (kn8_1 args) (kn7.call f args) else if f = 77 then orO (kn8_2 args) (kn7.call f args) else if f = 99 then orO (kn8_3 args) (kn7.call f args) else if f = 166 then orO (kn8_4 args) (kn7.call f args) else kn7.call f args
def kn8 : Kn := { call := kn8_call, eqs := eqTys, callB := kn7.callB }
attribute [go_sem] kn8_0_0 kn8_0_1 kn8_0 kn8_1_0 kn8_1_1 kn8_1 kn8_2_0 kn8_2_1 kn8_2 kn8_3_0 kn8_3_1 kn8_3 kn8_4_0 kn8_4_1 kn8_4_2 kn8_4 kn8_call kn8
theorem kn8_ok : ∀ f args res, kn8_call f args = some res → TC Try.prog f args [] 1 res [] 1 := by
  intro f args res h
  unfold kn8_call at h
  split at h
  · rename_i e; subst e
    have hh := orO_elim h
    clear h
    rcases hh with h | h
    rotate_left
    · exact k7.call _ _ _ h
    unfold kn8_0 at h
    split at h
    · rename_i r0; unfold kn8_0_0 at h
      obtain ⟨c, e0, h⟩ := Option.bind_eq_some_iff.1 h
      unfold kn8_0_1 at h
      cases h; rw [unCm_ok e0]; exact toCm_tc c
    · cases h
  split at h
  · rename_i e; subst e
    have hh := orO_elim h
    clear h
    rcases hh with h | h
    rotate_left
    · exact k7.call _ _ _ h
    unfold kn8_1 at h
    split at h
    · rename_i r0; unfold kn8_1_0 at h
      obtain ⟨c, e0, h⟩ := Option.bind_eq_some_iff.1 h
      unfold kn8_1_1 at h
      cases h; rw [unRp_ok e0]; exact toRp_tc c
    · cases h
  split at h
  · rename_i e; subst e
    have hh := orO_elim h
    clear h
    rcases hh with h | h
    rotate_left
    · exact k7.call _ _ _ h
    unfold kn8_2 at h
    split at h
    · rename_i r0 n; unfold kn8_2_0 at h
      obtain ⟨c, e0, h⟩ := Option.bind_eq_some_iff.1 h
      unfold kn8_2_1 at h
      cases h; rw [unCm_ok e0]; exact szCm_tc c n
    · cases h
  split at h
  · rename_i e; subst e
    have hh := orO_elim h
    clear h
    rcases hh with h | h
    rotate_left
    · exact k7.call _ _ _ h
    unfold kn8_3 at h
    split at h
    · rename_i r0 n; unfold kn8_3_0 at h
      obtain ⟨c, e0, h⟩ := Option.bind_eq_some_iff.1 h
      unfold kn8_3_1 at h
      cases h; rw [unRp_ok e0]; exact szRp_tc c n
    · cases h
  split at h
  · rename_i e; subst e
    have hh := orO_elim h
    clear h
    rcases hh with h | h
    rotate_left
    · exact k7.call _ _ _ h
    unfold kn8_4 at h
    split at h
    · rename_i r0 r1; unfold kn8_4_0 at h
      obtain ⟨c, e0, h⟩ := Option.bind_eq_some_iff.1 h
      unfold kn8_4_1 at h
      obtain ⟨d, e1, h⟩ := Option.bind_eq_some_iff.1 h
      unfold kn8_4_2 at h
      cases h; rw [unCm_ok e0, unCm_ok e1]; exact eqCm_tc c d
    · cases h
  · exact k7.call f args res h
theorem k8 : KnOk Try.prog kn8 := ⟨kn8_ok, eqTysOk, k7.callB⟩
def unAn : List CV → Option An
  | [.t (.v (.int .i64 u)), .t (.v (.int .i64 v)), .t (.v (.int .i64 w)), .t (.v (.int .i64 i)), .t (.v (.int .i64 n)), .t (.v (.int .i64 p)), .t (.v (.int .i64 q)), .t (.v (.int .i64 s)), .t (.v (.int .i64 t)), .t (.v (.int .i64 k)), .t (.v (.int .i64 a)), .t (.v (.int .i64 b)), .t (.v (.int .i64 o)), .t (.v (.string x)), .t (.v (.string y)), .t (.v (.string z))] => some ⟨u, v, w, ⟨i, n, p, q, s, t, k, ⟨a, b, o, x, y, z⟩⟩⟩
  | _ => none
theorem unAn_ok {xs : List CV} {c : An} (h : unAn xs = some c) : xs = c.cv := by
  unfold unAn at h
  split at h
  · cases h; rfl
  · cases h
attribute [go_sem] unAn
theorem toCl_tc (c : Cl) : TC Try.prog 19 [.agg c.cv] [] 1 (.agg c.cv) [] 1 := by
  refine tc_cell tabOk Try.func19 rfl 30 rfl (Nat.le_of_ble_eq_true rfl) (by decide) [(2, some 26)] rfl (by intro id x h; cases h) ?_
  intro w0 E0
  have kOk := k8
  obtain ⟨i, n, p, q, s, t, k, ⟨a, b, o, x, y, z⟩⟩ := c
  simp only [Cl.cv]
  repeat' (fail_if_success (with_reducible apply amR_id)); first
    | (refine guardP_mk (fun h => ?_) (fun h => ?_) <;> (refine go ?_; try simp only [decide_eq_true_eq, decide_eq_false_iff_not, Bool.not_true, Bool.not_false, Bool.not_eq_true', Bool.not_eq_false', beq_iff_eq, bne_iff_ne, beq_eq_false_iff_ne, bne_eq_false_iff_eq, ne_eq, Bool.false_eq_true, reduceCtorEq] at h))
    | (refine hK _ ?_; clear hK K Q1)
    | (refine hK _ _ rfl ?_; clear hK K; try refine go ?_)
    | (refine am_retP rfl ?_ rfl; first | refine go ?_ | rfl)
    | (refine am_retC [] rfl ?_ rfl rfl; first | refine go ?_ | rfl)
    | (refine wkp ?_)
    | (refine am_rs tabOk kOk rfl fun K Q1 hK => ?_; refine go ?_)
    | (refine am_ds mixed tabOk kOk rfl rfl fun K hK => ?_; refine go ?_)
    | (refine am_dreg mixed tabOk kOk rfl rfl fun K hK => ?_; refine go ?_)
  all_goals rfl
theorem toEv_tc (c : Ev) : TC Try.prog 20 [.agg c.cv] [] 1 (.agg c.cv) [] 1 := by
  refine tc_cell tabOk Try.func20 rfl 16 rfl (Nat.le_of_ble_eq_true rfl) (by decide) [(2, some 36)] rfl (by intro id x h; cases h) ?_
  intro w0 E0
  have kOk := k8
  obtain ⟨ek, ⟨ma, mb, mo, mx, my, mz⟩, ⟨rc, rq, rk, rr, rv, rg⟩⟩ := c
  simp only [Ev.cv, Cm.cv, Rp.cv]
  repeat' (fail_if_success (with_reducible apply amR_id)); first
    | (refine guardP_mk (fun h => ?_) (fun h => ?_) <;> (refine go ?_; try simp only [decide_eq_true_eq, decide_eq_false_iff_not, Bool.not_true, Bool.not_false, Bool.not_eq_true', Bool.not_eq_false', beq_iff_eq, bne_iff_ne, beq_eq_false_iff_ne, bne_eq_false_iff_eq, ne_eq, Bool.false_eq_true, reduceCtorEq] at h))
    | (refine hK _ ?_; clear hK K Q1)
    | (refine hK _ _ rfl ?_; clear hK K; try refine go ?_)
    | (refine am_retP rfl ?_ rfl; first | refine go ?_ | rfl)
    | (refine am_retC [] rfl ?_ rfl rfl; first | refine go ?_ | rfl)
    | (refine wkp ?_)
    | (refine am_rs tabOk kOk rfl fun K Q1 hK => ?_; refine go ?_)
    | (refine am_ds mixed tabOk kOk rfl rfl fun K hK => ?_; refine go ?_)
    | (refine am_dreg mixed tabOk kOk rfl rfl fun K hK => ?_; refine go ?_)
  all_goals rfl
theorem szCl_tc (c : Cl) (left : Int) : TC Try.prog 17 [.agg c.cv, int left] [] 1 (int (if szCmF c.cmd left < 0 then -1 else szCmF c.cmd left)) [] 1 := by
  refine tc_intro Try.func17 rfl 12 rfl (Nat.le_of_ble_eq_true rfl) (by decide) [4] rfl (by intro id x h; cases h) ?_
  intro w0 E0
  have kOk := k8
  obtain ⟨i, n, p, q, s, t, k, ⟨a, b, o, x, y, z⟩⟩ := c
  simp only [Cl.cv]
  repeat' (fail_if_success (with_reducible apply amR_id)); first
    | (refine guardP_mk (fun h => ?_) (fun h => ?_) <;> (refine go ?_; try simp only [decide_eq_true_eq, decide_eq_false_iff_not, Bool.not_true, Bool.not_false, Bool.not_eq_true', Bool.not_eq_false', beq_iff_eq, bne_iff_ne, beq_eq_false_iff_ne, bne_eq_false_iff_eq, ne_eq, Bool.false_eq_true, reduceCtorEq] at h))
    | (refine hK _ ?_; clear hK K Q1)
    | (refine hK _ _ rfl ?_; clear hK K; try refine go ?_)
    | (refine am_retP rfl ?_ rfl; first | refine go ?_ | rfl)
    | (refine am_retC [] rfl ?_ rfl rfl; first | refine go ?_ | rfl)
    | (refine wkp ?_)
    | (refine am_rs tabOk kOk rfl fun K Q1 hK => ?_; refine go ?_)
    | (refine am_ds mixed tabOk kOk rfl rfl fun K hK => ?_; refine go ?_)
    | (refine am_dreg mixed tabOk kOk rfl rfl fun K hK => ?_; refine go ?_)
  all_goals (simp (disch := omega) only [if_pos, if_neg]; try rfl)
def szEvF (e : Ev) (left : Int) : Int := if szCmF e.m left < 0 then -1 else if lft (szCmF e.m left) e.r.v.size < 0 then -1 else lft (szCmF e.m left) e.r.v.size
theorem szEv_tc (c : Ev) (left : Int) : TC Try.prog 18 [.agg c.cv, int left] [] 1 (int (szEvF c left)) [] 1 := by
  refine tc_intro Try.func18 rfl 18 rfl (Nat.le_of_ble_eq_true rfl) (by decide) [4] rfl (by intro id x h; cases h) ?_
  intro w0 E0
  have kOk := k8
  obtain ⟨ek, ⟨ma, mb, mo, mx, my, mz⟩, ⟨rc, rq, rk, rr, rv, rg⟩⟩ := c
  simp only [Ev.cv, Cm.cv, Rp.cv]
  repeat' (fail_if_success (with_reducible apply amR_id)); first
    | (refine guardP_mk (fun h => ?_) (fun h => ?_) <;> (refine go ?_; try simp only [decide_eq_true_eq, decide_eq_false_iff_not, Bool.not_true, Bool.not_false, Bool.not_eq_true', Bool.not_eq_false', beq_iff_eq, bne_iff_ne, beq_eq_false_iff_ne, bne_eq_false_iff_eq, ne_eq, Bool.false_eq_true, reduceCtorEq] at h))
    | (refine hK _ ?_; clear hK K Q1)
    | (refine hK _ _ rfl ?_; clear hK K; try refine go ?_)
    | (refine am_retP rfl ?_ rfl; first | refine go ?_ | rfl)
    | (refine am_retC [] rfl ?_ rfl rfl; first | refine go ?_ | rfl)
    | (refine wkp ?_)
    | (refine am_rs tabOk kOk rfl fun K Q1 hK => ?_; refine go ?_)
    | (refine am_ds mixed tabOk kOk rfl rfl fun K hK => ?_; refine go ?_)
    | (refine am_dreg mixed tabOk kOk rfl rfl fun K hK => ?_; refine go ?_)
  all_goals (simp only [szEvF]; simp (disch := omega) only [if_pos, if_neg]; try rfl)
set_option maxHeartbeats 8000000 in
theorem eqCl_tc (c d : Cl) : TC Try.prog 101 [.agg c.cv, .agg d.cv] [] 1 (bool (decide (c = d))) [] 1 := by
  refine tc_intro Try.func101 rfl 46 rfl (Nat.le_of_ble_eq_true rfl) (by decide) [4] rfl (by intro id x h; cases h) ?_
  intro w0 E0
  have kOk := k8
  obtain ⟨i, n, p, q, s, t, k, ⟨a, b, o, x, y, z⟩⟩ := c
  obtain ⟨i', n', p', q', s', t', k', ⟨a', b', o', x', y', z'⟩⟩ := d
  simp only [Cl.cv]
  repeat' (fail_if_success (with_reducible apply amR_id)); first
    | (refine guardP_mk (fun h => ?_) (fun h => ?_) <;> (refine go ?_; try simp only [decide_eq_true_eq, decide_eq_false_iff_not, Bool.not_true, Bool.not_false, Bool.not_eq_true', Bool.not_eq_false', beq_iff_eq, bne_iff_ne, beq_eq_false_iff_ne, bne_eq_false_iff_eq, ne_eq, Bool.false_eq_true, reduceCtorEq] at h))
    | (refine hK _ ?_; clear hK K Q1)
    | (refine hK _ _ rfl ?_; clear hK K; try refine go ?_)
    | (refine am_retP rfl ?_ rfl; first | refine go ?_ | rfl)
    | (refine am_retC [] rfl ?_ rfl rfl; first | refine go ?_ | rfl)
    | (refine wkp ?_)
    | (refine am_rs tabOk kOk rfl fun K Q1 hK => ?_; refine go ?_)
    | (refine am_ds mixed tabOk kOk rfl rfl fun K hK => ?_; refine go ?_)
    | (refine am_dreg mixed tabOk kOk rfl rfl fun K hK => ?_; refine go ?_)
  all_goals simp_all
def kn9_0_1 (c : Cl) : Option TV := some (.agg c.cv)
def kn9_0_0 (r0 : List CV) : Option TV := (unCl r0).bind (kn9_0_1)
def kn9_0 : List TV → Option TV
  | [.agg r0] => kn9_0_0 r0
  | _ => none
def kn9_1_1 (c : Ev) : Option TV := some (.agg c.cv)
def kn9_1_0 (r0 : List CV) : Option TV := (unEv r0).bind (kn9_1_1)
def kn9_1 : List TV → Option TV
  | [.agg r0] => kn9_1_0 r0
  | _ => none
def kn9_2_1 (n : Int) (c : Cl) : Option TV := some (int (if szCmF c.cmd n < 0 then -1 else szCmF c.cmd n))
def kn9_2_0 (n : Int) (r0 : List CV) : Option TV := (unCl r0).bind (kn9_2_1 n)
def kn9_2 : List TV → Option TV
  | [.agg r0, .c (.t (.v (.int .i64 n)))] => kn9_2_0 n r0
  | _ => none
def kn9_3_1 (n : Int) (c : Ev) : Option TV := some (int (szEvF c n))
def kn9_3_0 (n : Int) (r0 : List CV) : Option TV := (unEv r0).bind (kn9_3_1 n)
def kn9_3 : List TV → Option TV
  | [.agg r0, .c (.t (.v (.int .i64 n)))] => kn9_3_0 n r0
  | _ => none
def kn9_4_2 (c : Cl) (d : Cl) : Option TV := some (bool (decide (c = d)))
def kn9_4_1 (r1 : List CV) (c : Cl) : Option TV := (unCl r1).bind (kn9_4_2 c)
def kn9_4_0 (r0 : List CV) (r1 : List CV) : Option TV := (unCl r0).bind (kn9_4_1 r1)
def kn9_4 : List TV → Option TV
  | [.agg r0, .agg r1] => kn9_4_0 r0 r1
  | _ => none
def kn9_5_2 (c : Cl) (e : Ev) : Option TV := some (.agg (stepF c e).cv)
def kn9_5_1 (r1 : List CV) (c : Cl) : Option TV := (unEv r1).bind (kn9_5_2 c)
def kn9_5_0 (r0 : List CV) (r1 : List CV) : Option TV := (unCl r0).bind (kn9_5_1 r1)
def kn9_5 : List TV → Option TV
  | [.agg r0, .agg r1] => kn9_5_0 r0 r1
  | _ => none
def kn9_6_2 (c : Cl) (e : Ev) : Option TV := some (.agg (stepF c e).cv)
def kn9_6_1 (r1 : List CV) (c : Cl) : Option TV := (unEv r1).bind (kn9_6_2 c)
def kn9_6_0 (r0 : List CV) (r1 : List CV) : Option TV := (unCl r0).bind (kn9_6_1 r1)
def kn9_6 : List TV → Option TV
  | [.agg r0, .agg r1] => kn9_6_0 r0 r1
  | _ => none
def kn9_call (f : FuncId) (args : List TV) : Option TV := if f = 19 then orO (kn9_0 args) (kn8.call f args) else if f = 20 then orO (kn9_1 args) (kn8.call f args) else if f = 17 then orO (kn9_2 args) (kn8.call f args) else if f = 18 then orO (kn9_3 args) (kn8.call f args) else if f = 101 then orO (kn9_4 args) (kn8.call f args) else if f = 16 then orO (kn9_5 args) (kn8.call f args) else if f = 15 then orO (kn9_6 args) (kn8.call f args) else kn8.call f args
def kn9 : Kn := { call := kn9_call, eqs := eqTys, callB := kn8.callB }
attribute [go_sem] kn9_0_0 kn9_0_1 kn9_0 kn9_1_0 kn9_1_1 kn9_1 kn9_2_0 kn9_2_1 kn9_2 kn9_3_0 kn9_3_1 kn9_3 kn9_4_0 kn9_4_1 kn9_4_2 kn9_4 kn9_5_0 kn9_5_1 kn9_5_2 kn9_5 kn9_6_0 kn9_6_1 kn9_6_2 kn9_6 kn9_call kn9
theorem kn9_ok : ∀ f args res, kn9_call f args = some res → TC Try.prog f args [] 1 res [] 1 := by
  intro f args res h
  unfold kn9_call at h
  split at h
  · rename_i e; subst e
    have hh := orO_elim h
    clear h
    rcases hh with h | h
    rotate_left
    · exact k8.call _ _ _ h
    unfold kn9_0 at h
    split at h
    · rename_i r0; unfold kn9_0_0 at h
      obtain ⟨c, e0, h⟩ := Option.bind_eq_some_iff.1 h
      unfold kn9_0_1 at h
      cases h; rw [unCl_ok e0]; exact toCl_tc c
    · cases h
  split at h
  · rename_i e; subst e
    have hh := orO_elim h
    clear h
    rcases hh with h | h
    rotate_left
    · exact k8.call _ _ _ h
    unfold kn9_1 at h
    split at h
    · rename_i r0; unfold kn9_1_0 at h
      obtain ⟨c, e0, h⟩ := Option.bind_eq_some_iff.1 h
      unfold kn9_1_1 at h
      cases h; rw [unEv_ok e0]; exact toEv_tc c
    · cases h
  split at h
  · rename_i e; subst e
    have hh := orO_elim h
    clear h
    rcases hh with h | h
    rotate_left
    · exact k8.call _ _ _ h
    unfold kn9_2 at h
    split at h
    · rename_i r0 n; unfold kn9_2_0 at h
      obtain ⟨c, e0, h⟩ := Option.bind_eq_some_iff.1 h
      unfold kn9_2_1 at h
      cases h; rw [unCl_ok e0]; exact szCl_tc c n
    · cases h
  split at h
  · rename_i e; subst e
    have hh := orO_elim h
    clear h
    rcases hh with h | h
    rotate_left
    · exact k8.call _ _ _ h
    unfold kn9_3 at h
    split at h
    · rename_i r0 n; unfold kn9_3_0 at h
      obtain ⟨c, e0, h⟩ := Option.bind_eq_some_iff.1 h
      unfold kn9_3_1 at h
      cases h; rw [unEv_ok e0]; exact szEv_tc c n
    · cases h
  split at h
  · rename_i e; subst e
    have hh := orO_elim h
    clear h
    rcases hh with h | h
    rotate_left
    · exact k8.call _ _ _ h
    unfold kn9_4 at h
    split at h
    · rename_i r0 r1; unfold kn9_4_0 at h
      obtain ⟨c, e0, h⟩ := Option.bind_eq_some_iff.1 h
      unfold kn9_4_1 at h
      obtain ⟨d, e1, h⟩ := Option.bind_eq_some_iff.1 h
      unfold kn9_4_2 at h
      cases h; rw [unCl_ok e0, unCl_ok e1]; exact eqCl_tc c d
    · cases h
  split at h
  · rename_i e; subst e
    have hh := orO_elim h
    clear h
    rcases hh with h | h
    rotate_left
    · exact k8.call _ _ _ h
    unfold kn9_5 at h
    split at h
    · rename_i r0 r1; unfold kn9_5_0 at h
      obtain ⟨c, e0, h⟩ := Option.bind_eq_some_iff.1 h
      unfold kn9_5_1 at h
      obtain ⟨e, e1, h⟩ := Option.bind_eq_some_iff.1 h
      unfold kn9_5_2 at h
      cases h; rw [unCl_ok e0, unEv_ok e1]; exact stepI_tc c e
    · cases h
  split at h
  · rename_i e; subst e
    have hh := orO_elim h
    clear h
    rcases hh with h | h
    rotate_left
    · exact k8.call _ _ _ h
    unfold kn9_6 at h
    split at h
    · rename_i r0 r1; unfold kn9_6_0 at h
      obtain ⟨c, e0, h⟩ := Option.bind_eq_some_iff.1 h
      unfold kn9_6_1 at h
      obtain ⟨e, e1, h⟩ := Option.bind_eq_some_iff.1 h
      unfold kn9_6_2 at h
      cases h; rw [unCl_ok e0, unEv_ok e1]; exact stepS_tc c e
    · cases h
  · exact k8.call f args res h
theorem k9 : KnOk Try.prog kn9 := ⟨kn9_ok, eqTysOk, k8.callB⟩
set_option maxHeartbeats 8000000 in
theorem eqAn_tc (c d : An) : TC Try.prog 21 [.agg c.cv, .agg d.cv] [] 1 (bool (decide (c = d))) [] 1 := by
  refine tc_intro Try.func21 rfl 26 rfl (Nat.le_of_ble_eq_true rfl) (by decide) [4] rfl (by intro id x h; cases h) ?_
  intro w0 E0
  have kOk := k9
  obtain ⟨u, v, w, ⟨i, n, p, q, s, t, k, ⟨a, b, o, x, y, z⟩⟩⟩ := c
  obtain ⟨u', v', w', ⟨i', n', p', q', s', t', k', ⟨a', b', o', x', y', z'⟩⟩⟩ := d
  simp only [An.cv, Cl.cv]
  repeat' (fail_if_success (with_reducible apply amR_id)); first
    | (refine guardP_mk (fun h => ?_) (fun h => ?_) <;> (refine go ?_; try simp only [decide_eq_true_eq, decide_eq_false_iff_not, Bool.not_true, Bool.not_false, Bool.not_eq_true', Bool.not_eq_false', beq_iff_eq, bne_iff_ne, beq_eq_false_iff_ne, bne_eq_false_iff_eq, ne_eq, Bool.false_eq_true, reduceCtorEq] at h))
    | (refine hK _ ?_; clear hK K Q1)
    | (refine hK _ _ rfl ?_; clear hK K; try refine go ?_)
    | (refine am_retP rfl ?_ rfl; first | refine go ?_ | rfl)
    | (refine am_retC [] rfl ?_ rfl rfl; first | refine go ?_ | rfl)
    | (refine wkp ?_)
    | (refine am_rs tabOk kOk rfl fun K Q1 hK => ?_; refine go ?_)
    | (refine am_ds mixed tabOk kOk rfl rfl fun K hK => ?_; refine go ?_)
    | (refine am_dreg mixed tabOk kOk rfl rfl fun K hK => ?_; refine go ?_)
  all_goals simp_all
def kn10_0_2 (c : An) (d : An) : Option TV := some (bool (decide (c = d)))
def kn10_0_1 (r1 : List CV) (c : An) : Option TV := (unAn r1).bind (kn10_0_2 c)
def kn10_0_0 (r0 : List CV) (r1 : List CV) : Option TV := (unAn r0).bind (kn10_0_1 r1)
def kn10_0 : List TV → Option TV
  | [.agg r0, .agg r1] => kn10_0_0 r0 r1
  | _ => none
def kn10_call (f : FuncId) (args : List TV) : Option TV := if f = 21 then orO (kn10_0 args) (kn9.call f args) else kn9.call f args
def kn10 : Kn := { call := kn10_call, eqs := eqTys, callB := kn9.callB }
attribute [go_sem] kn10_0_0 kn10_0_1 kn10_0_2 kn10_0 kn10_call kn10
theorem kn10_ok : ∀ f args res, kn10_call f args = some res → TC Try.prog f args [] 1 res [] 1 := by
  intro f args res h
  unfold kn10_call at h
  split at h
  · rename_i e; subst e
    have hh := orO_elim h
    clear h
    rcases hh with h | h
    rotate_left
    · exact k9.call _ _ _ h
    unfold kn10_0 at h
    split at h
    · rename_i r0 r1; unfold kn10_0_0 at h
      obtain ⟨c, e0, h⟩ := Option.bind_eq_some_iff.1 h
      unfold kn10_0_1 at h
      obtain ⟨d, e1, h⟩ := Option.bind_eq_some_iff.1 h
      unfold kn10_0_2 at h
      cases h; rw [unAn_ok e0, unAn_ok e1]; exact eqAn_tc c d
    · cases h
  · exact k9.call f args res h
theorem k10 : KnOk Try.prog kn10 := ⟨kn10_ok, eqTysOk, k9.callB⟩
set_option maxHeartbeats 8000000 in
theorem law_tc (c : Cl) (e : Ev) : TC Try.prog 4 [.agg c.cv, .agg e.cv] [] 1 (bool true) [] 1 := by
  refine tc_intro Try.func4 rfl 32 rfl (Nat.le_of_ble_eq_true rfl) (by decide) [4] rfl (by intro id x h; cases h) ?_
  intro w0 E0
  have kOk := k10
  obtain ⟨i, n, p, q, s, t, k, ⟨a, b, o, x, y, z⟩⟩ := c
  obtain ⟨ek, ⟨ma, mb, mo, mx, my, mz⟩, ⟨rc, rq, rk, rr, rv, rg⟩⟩ := e
  simp only [Cl.cv, Ev.cv, Cm.cv, Rp.cv]
  repeat' (fail_if_success (with_reducible apply amR_id)); first
    | (refine guardP_mk (fun h => ?_) (fun h => ?_) <;> (refine go ?_; try simp only [decide_eq_true_eq, decide_eq_false_iff_not, Bool.not_true, Bool.not_false, Bool.not_eq_true', Bool.not_eq_false', beq_iff_eq, bne_iff_ne, beq_eq_false_iff_ne, bne_eq_false_iff_eq, ne_eq, Bool.false_eq_true, reduceCtorEq] at h))
    | (refine hK _ ?_; clear hK K Q1)
    | (refine hK _ _ rfl ?_; clear hK K; try refine go ?_)
    | (refine am_retP rfl ?_ rfl; first | refine go ?_ | rfl)
    | (refine am_retC [] rfl ?_ rfl rfl; first | refine go ?_ | rfl)
    | (refine wkp ?_)
    | (refine am_rs tabOk kOk rfl fun K Q1 hK => ?_; refine go ?_)
    | (refine am_ds mixed tabOk kOk rfl rfl fun K hK => ?_; refine go ?_)
    | (refine am_dreg mixed tabOk kOk rfl rfl fun K hK => ?_; refine go ?_)
  all_goals first | rfl | simp_all
theorem op_Cl : OpT Try.prog (fun xs => ∃ c : Cl, xs.map CV.t = c.cv) 40 := by
  refine opT_weak (opT_struct Try.underlying40 (by kernel_rfl) (opT_cons (s := 1) rfl (by kernel_rfl) (opT_int Try.underlying3) (opT_cons (s := 1) rfl (by kernel_rfl) (opT_int Try.underlying3) (opT_cons (s := 1) rfl (by kernel_rfl) (opT_int Try.underlying3) (opT_cons (s := 1) rfl (by kernel_rfl) (opT_int Try.underlying3) (opT_cons (s := 1) rfl (by kernel_rfl) (opT_int Try.underlying3) (opT_cons (s := 1) rfl (by kernel_rfl) (opT_int Try.underlying3) (opT_cons (s := 1) rfl (by kernel_rfl) (opT_int Try.underlying3) (opT_cons (s := 6) rfl (by kernel_rfl) (opT_struct Try.underlying38 (by kernel_rfl) (opT_cons (s := 1) rfl (by kernel_rfl) (opT_int Try.underlying3) (opT_cons (s := 1) rfl (by kernel_rfl) (opT_int Try.underlying3) (opT_cons (s := 1) rfl (by kernel_rfl) (opT_int Try.underlying3) (opT_cons (s := 1) rfl (by kernel_rfl) (opT_string Try.underlying9) (opT_cons (s := 1) rfl (by kernel_rfl) (opT_string Try.underlying9) (opT_cons (s := 1) rfl (by kernel_rfl) (opT_string Try.underlying9) opT_nil))))))) opT_nil))))))))) ?_
  rintro xs ⟨_, _, rfl, ⟨a2, rfl, _⟩, ⟨_, _, rfl, ⟨a3, rfl, _⟩, ⟨_, _, rfl, ⟨a4, rfl, _⟩, ⟨_, _, rfl, ⟨a5, rfl, _⟩, ⟨_, _, rfl, ⟨a6, rfl, _⟩, ⟨_, _, rfl, ⟨a7, rfl, _⟩, ⟨_, _, rfl, ⟨a8, rfl, _⟩, ⟨_, _, rfl, ⟨_, _, rfl, ⟨a10, rfl, _⟩, ⟨_, _, rfl, ⟨a11, rfl, _⟩, ⟨_, _, rfl, ⟨a12, rfl, _⟩, ⟨_, _, rfl, ⟨a13, rfl, _⟩, ⟨_, _, rfl, ⟨a14, rfl, _⟩, ⟨_, _, rfl, ⟨a15, rfl, _⟩, rfl⟩⟩⟩⟩⟩⟩, rfl⟩⟩⟩⟩⟩⟩⟩⟩
  exact ⟨⟨a2, a3, a4, a5, a6, a7, a8, ⟨a10, a11, a12, a13, a14, a15⟩⟩, rfl⟩
theorem op_Ev : OpT Try.prog (fun xs => ∃ c : Ev, xs.map CV.t = c.cv) 43 := by
  refine opT_weak (opT_struct Try.underlying43 (by kernel_rfl) (opT_cons (s := 1) rfl (by kernel_rfl) (opT_int Try.underlying3) (opT_cons (s := 6) rfl (by kernel_rfl) (opT_struct Try.underlying38 (by kernel_rfl) (opT_cons (s := 1) rfl (by kernel_rfl) (opT_int Try.underlying3) (opT_cons (s := 1) rfl (by kernel_rfl) (opT_int Try.underlying3) (opT_cons (s := 1) rfl (by kernel_rfl) (opT_int Try.underlying3) (opT_cons (s := 1) rfl (by kernel_rfl) (opT_string Try.underlying9) (opT_cons (s := 1) rfl (by kernel_rfl) (opT_string Try.underlying9) (opT_cons (s := 1) rfl (by kernel_rfl) (opT_string Try.underlying9) opT_nil))))))) (opT_cons (s := 6) rfl (by kernel_rfl) (opT_struct Try.underlying41 (by kernel_rfl) (opT_cons (s := 1) rfl (by kernel_rfl) (opT_int Try.underlying3) (opT_cons (s := 1) rfl (by kernel_rfl) (opT_int Try.underlying3) (opT_cons (s := 1) rfl (by kernel_rfl) (opT_int Try.underlying3) (opT_cons (s := 1) rfl (by kernel_rfl) (opT_int Try.underlying3) (opT_cons (s := 1) rfl (by kernel_rfl) (opT_string Try.underlying9) (opT_cons (s := 1) rfl (by kernel_rfl) (opT_int Try.underlying3) opT_nil))))))) opT_nil)))) ?_
  rintro xs ⟨_, _, rfl, ⟨a2, rfl, _⟩, ⟨_, _, rfl, ⟨_, _, rfl, ⟨a4, rfl, _⟩, ⟨_, _, rfl, ⟨a5, rfl, _⟩, ⟨_, _, rfl, ⟨a6, rfl, _⟩, ⟨_, _, rfl, ⟨a7, rfl, _⟩, ⟨_, _, rfl, ⟨a8, rfl, _⟩, ⟨_, _, rfl, ⟨a9, rfl, _⟩, rfl⟩⟩⟩⟩⟩⟩, ⟨_, _, rfl, ⟨_, _, rfl, ⟨a11, rfl, _⟩, ⟨_, _, rfl, ⟨a12, rfl, _⟩, ⟨_, _, rfl, ⟨a13, rfl, _⟩, ⟨_, _, rfl, ⟨a14, rfl, _⟩, ⟨_, _, rfl, ⟨a15, rfl, _⟩, ⟨_, _, rfl, ⟨a16, rfl, _⟩, rfl⟩⟩⟩⟩⟩⟩, rfl⟩⟩⟩
  exact ⟨⟨a2, ⟨a4, a5, a6, a7, a8, a9⟩, ⟨a11, a12, a13, a14, a15, a16⟩⟩, rfl⟩
end Go.Proofs.YtgalnkilcajgcaaA
