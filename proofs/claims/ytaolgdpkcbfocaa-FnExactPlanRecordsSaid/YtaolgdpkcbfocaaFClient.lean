/- Clients: well formed, of both sides. -/
import Derived.Test.YtaolgdpkcbfocaaFCmd
namespace Go.Proofs.YtaolgdpkcbfocaaA
open Go.Proofs
set_option autoImplicit false
set_option linter.unusedVariables false
set_option linter.unusedSimpArgs false
set_option maxRecDepth 4000
def szF (n : Int) : Bool := decide (n = 3 ∨ n = 5 ∨ n = 7)
theorem sizeS_tc (n : Int) : TC Try.prog 62 [int n] [] 1 (bool (szF n)) [] 1 := by
  refine tc_intro Try.func62 rfl 13 rfl (Nat.le_of_ble_eq_true rfl) (by decide) [2] rfl (by intro id x h; cases h) ?_
  intro w0 E0
  have kOk := k1
  repeat' (fail_if_success (with_reducible apply amR_id)); first
    | (refine guardP_mk (fun h => ?_) (fun h => ?_) <;> (refine go ?_; try simp only [decide_eq_true_eq, decide_eq_false_iff_not, Bool.not_true, Bool.not_false, Bool.not_eq_true', Bool.not_eq_false', beq_iff_eq, bne_iff_ne, beq_eq_false_iff_ne, bne_eq_false_iff_eq, ne_eq, Bool.false_eq_true, reduceCtorEq] at h))
    | (refine hK _ ?_; clear hK K Q1)
    | (refine ⟨by first | omega | (simp only [List.length_map, List.length_append, List.length_cons, List.length_nil, List.length_replicate, List.length_drop, List.length_take]; omega), by unfold maxLen; first | omega | (simp only [List.length_map, List.length_append, List.length_cons, List.length_nil, List.length_replicate, List.length_drop, List.length_take]; omega), ?_⟩)
    | (refine hK _ _ rfl ?_; clear hK K; try refine go ?_)
    | (refine am_retP rfl ?_ rfl; first | refine go ?_ | rfl)
    | (refine am_retC [] rfl ?_ rfl rfl; first | refine go ?_ | rfl)
    | (refine wkp ?_)
    | (refine am_rs tabOk kOk rfl fun K Q1 hK => ?_; refine go ?_)
    | (refine am_ds mixed tabOk kOk rfl rfl fun K hK => ?_; refine go ?_)
    | (refine am_dreg mixed tabOk kOk rfl rfl fun K hK => ?_; refine go ?_)
  all_goals simp only [szF, beq_iff_eq, TV.c.injEq, CV.t.injEq, Tree.v.injEq, Value.bool.injEq] at *
  all_goals first | (exfalso; omega) | (symm; simp only [decide_eq_true_eq, decide_eq_false_iff_not]; omega) | (rw [Bool.eq_iff_iff]; simp only [beq_iff_eq, decide_eq_true_eq]; omega)
theorem sizeI_tc (n : Int) : TC Try.prog 66 [int n] [] 1 (bool (szF n)) [] 1 := by
  refine tc_intro Try.func66 rfl 13 rfl (Nat.le_of_ble_eq_true rfl) (by decide) [2] rfl (by intro id x h; cases h) ?_
  intro w0 E0
  have kOk := k1
  repeat' (fail_if_success (with_reducible apply amR_id)); first
    | (refine guardP_mk (fun h => ?_) (fun h => ?_) <;> (refine go ?_; try simp only [decide_eq_true_eq, decide_eq_false_iff_not, Bool.not_true, Bool.not_false, Bool.not_eq_true', Bool.not_eq_false', beq_iff_eq, bne_iff_ne, beq_eq_false_iff_ne, bne_eq_false_iff_eq, ne_eq, Bool.false_eq_true, reduceCtorEq] at h))
    | (refine hK _ ?_; clear hK K Q1)
    | (refine ⟨by first | omega | (simp only [List.length_map, List.length_append, List.length_cons, List.length_nil, List.length_replicate, List.length_drop, List.length_take]; omega), by unfold maxLen; first | omega | (simp only [List.length_map, List.length_append, List.length_cons, List.length_nil, List.length_replicate, List.length_drop, List.length_take]; omega), ?_⟩)
    | (refine hK _ _ rfl ?_; clear hK K; try refine go ?_)
    | (refine am_retP rfl ?_ rfl; first | refine go ?_ | rfl)
    | (refine am_retC [] rfl ?_ rfl rfl; first | refine go ?_ | rfl)
    | (refine wkp ?_)
    | (refine am_rs tabOk kOk rfl fun K Q1 hK => ?_; refine go ?_)
    | (refine am_ds mixed tabOk kOk rfl rfl fun K hK => ?_; refine go ?_)
    | (refine am_dreg mixed tabOk kOk rfl rfl fun K hK => ?_; refine go ?_)
  all_goals simp only [szF, beq_iff_eq, TV.c.injEq, CV.t.injEq, Tree.v.injEq, Value.bool.injEq] at *
  all_goals first | (exfalso; omega) | (symm; simp only [decide_eq_true_eq, decide_eq_false_iff_not]; omega) | (rw [Bool.eq_iff_iff]; simp only [beq_iff_eq, decide_eq_true_eq]; omega)
def unCm : List CV → Option Cm
  | [.t (.v (.int .i64 a)), .t (.v (.int .i64 q)), .t (.v (.int .i64 o)), .t (.v (.string x)), .t (.v (.string y)), .t (.v (.string z))] => some ⟨a, q, o, x, y, z⟩
  | _ => none
theorem unCm_ok {xs : List CV} {c : Cm} (h : unCm xs = some c) : xs = c.cv := by
  unfold unCm at h
  split at h
  · cases h; rfl
  · cases h
def cmK (c : Cm) : Option TV := some (int (cmF c))
def kCmd : List TV → Option TV
  | [.agg xs] => (unCm xs).bind cmK
  | _ => none
def kSz : List TV → Option TV
  | [.c (.t (.v (.int .i64 n)))] => some (bool (szF n))
  | _ => none
def call2 (f : FuncId) (args : List TV) : Option TV := if f = 62 then kSz args else if f = 66 then kSz args else if f = 63 then kCmd args else if f = 67 then kCmd args else call1 f args
def kn2 : Kn := { call := call2, eqs := eqTys }
attribute [go_sem] unCm cmK kCmd kSz call2 kn2
theorem call2_ok : ∀ f args res, call2 f args = some res → TC Try.prog f args [] 1 res [] 1 := by
  intro f args res h
  unfold call2 at h
  split at h
  · rename_i e; subst e
    unfold kSz at h
    split at h
    · cases h; exact sizeS_tc _
    · cases h
  split at h
  · rename_i e; subst e
    unfold kSz at h
    split at h
    · cases h; exact sizeI_tc _
    · cases h
  split at h
  · rename_i e; subst e
    unfold kCmd at h
    split at h
    · obtain ⟨c, h1, h2⟩ := Option.bind_eq_some_iff.1 h
      cases h2; rw [unCm_ok h1]; exact cmdS_tc c
    · cases h
  split at h
  · rename_i e; subst e
    unfold kCmd at h
    split at h
    · obtain ⟨c, h1, h2⟩ := Option.bind_eq_some_iff.1 h
      cases h2; rw [unCm_ok h1]; exact cmdI_tc c
    · cases h
  · exact call1_ok f args res h
theorem k2 : KnOk Try.prog kn2 := ⟨call2_ok, eqTysOk, (fun f args o r o1 n h => by cases h)⟩

theorem bbeq (x : ByteArray) : (x == { data := #[] }) = decide (x.size = 0) := by
  rw [beq_toListBytes, ByteArray.toList_eq, ByteArray.toList_eq]
  obtain ⟨⟨l⟩⟩ := x
  cases l <;> simp [ByteArray.size]
theorem cmF0 {c : Cm} (h : c.op = 0) (h2 : cmF c = 0) : c.cl = 0 := by
  unfold cmF at h2
  by_cases hc : c.cl = 0
  · exact hc
  · simp [h, hc] at h2
/-! ### Clients -/
structure Cl where
  id : Int
  n : Int
  pat : Int
  sq : Int
  st : Int
  to : Int
  tk : Int
  cmd : Cm
def Cl.cv (c : Cl) : List CV := [ci c.id, ci c.n, ci c.pat, ci c.sq, ci c.st, ci c.to, ci c.tk, ci c.cmd.cl, ci c.cmd.sq, ci c.cmd.op, cs c.cmd.k, cs c.cmd.v, cs c.cmd.o]
def clF (c : Cl) : Bool := decide ((1 ≤ c.id ∧ c.id ≤ 8) ∧ (c.n = 3 ∨ c.n = 5 ∨ c.n = 7) ∧ (1 ≤ c.pat ∧ c.pat ≤ 1000) ∧ (0 ≤ c.sq ∧ c.sq ≤ 1073741824) ∧ (1 ≤ c.to ∧ c.to ≤ c.n) ∧ (0 ≤ c.tk ∧ c.tk ≤ c.pat - 1) ∧
  ((c.st = 0 ∧ c.tk = 0 ∧ c.cmd.cl = 0 ∧ c.cmd.sq = 0 ∧ c.cmd.op = 0 ∧ c.cmd.k.size = 0 ∧ c.cmd.v.size = 0 ∧ c.cmd.o.size = 0) ∨ (c.st = 1 ∧ 1 ≤ c.sq ∧ cmF c.cmd = 0 ∧ c.cmd.cl = c.id ∧ c.cmd.sq = c.sq)))
set_option maxHeartbeats 8000000 in
theorem clS_tc (c : Cl) : TC Try.prog 29 [.agg c.cv] [] 1 (bool (clF c)) [] 1 := by
  refine tc_intro Try.func29 rfl 82 rfl (Nat.le_of_ble_eq_true rfl) (by decide) [2] rfl (by intro id x h; cases h) ?_
  intro w0 E0
  have kOk := k2
  obtain ⟨i, n, p, q, s, t, k, ⟨a, b, o, x, y, z⟩⟩ := c
  simp only [Cl.cv]
  repeat' (fail_if_success (with_reducible apply amR_id)); first
    | (refine guardP_mk (fun h => ?_) (fun h => ?_) <;> (refine go ?_; try simp only [decide_eq_true_eq, decide_eq_false_iff_not, Bool.not_true, Bool.not_false, Bool.not_eq_true', Bool.not_eq_false', beq_iff_eq, bne_iff_ne, beq_eq_false_iff_ne, bne_eq_false_iff_eq, ne_eq, Bool.false_eq_true, reduceCtorEq] at h))
    | (refine hK _ ?_; clear hK K Q1)
    | (refine ⟨by first | omega | (simp only [List.length_map, List.length_append, List.length_cons, List.length_nil, List.length_replicate, List.length_drop, List.length_take]; omega), by unfold maxLen; first | omega | (simp only [List.length_map, List.length_append, List.length_cons, List.length_nil, List.length_replicate, List.length_drop, List.length_take]; omega), ?_⟩)
    | (refine hK _ _ rfl ?_; clear hK K; try refine go ?_)
    | (refine am_retP rfl ?_ rfl; first | refine go ?_ | rfl)
    | (refine am_retC [] rfl ?_ rfl rfl; first | refine go ?_ | rfl)
    | (refine wkp ?_)
    | (refine am_rs tabOk kOk rfl fun K Q1 hK => ?_; refine go ?_)
    | (refine am_ds mixed tabOk kOk rfl rfl fun K hK => ?_; refine go ?_)
    | (refine am_dreg mixed tabOk kOk rfl rfl fun K hK => ?_; refine go ?_)
  all_goals
    have hw : 1 ≤ p → p ≤ 1000 → IntKind.i64.wrap (p - 1) = p - 1 := fun h1 h2 => wrapN (by omega) (by omega)
    have hz : o = 0 → cmF ⟨a, b, o, x, y, z⟩ = 0 → a = 0 := fun h1 h2 => cmF0 (c := ⟨a, b, o, x, y, z⟩) h1 h2
    simp only [TV.c.injEq, CV.t.injEq, Tree.v.injEq, Value.bool.injEq]
    rw [Bool.eq_iff_iff]
    simp only [clF, inB, szF, bbeq, decide_eq_true_eq, decide_eq_false_iff_not, Bool.and_eq_true, beq_iff_eq, Bool.false_eq_true, false_iff, true_iff] at *
    omega
set_option maxHeartbeats 8000000 in
theorem clI_tc (c : Cl) : TC Try.prog 35 [.agg c.cv] [] 1 (bool (clF c)) [] 1 := by
  refine tc_intro Try.func35 rfl 89 rfl (Nat.le_of_ble_eq_true rfl) (by decide) [2] rfl (by intro id x h; cases h) ?_
  intro w0 E0
  have kOk := k2
  obtain ⟨i, n, p, q, s, t, k, ⟨a, b, o, x, y, z⟩⟩ := c
  simp only [Cl.cv]
  repeat' (fail_if_success (with_reducible apply amR_id)); first
    | (refine guardP_mk (fun h => ?_) (fun h => ?_) <;> (refine go ?_; try simp only [decide_eq_true_eq, decide_eq_false_iff_not, Bool.not_true, Bool.not_false, Bool.not_eq_true', Bool.not_eq_false', beq_iff_eq, bne_iff_ne, beq_eq_false_iff_ne, bne_eq_false_iff_eq, ne_eq, Bool.false_eq_true, reduceCtorEq] at h))
    | (refine hK _ ?_; clear hK K Q1)
    | (refine ⟨by first | omega | (simp only [List.length_map, List.length_append, List.length_cons, List.length_nil, List.length_replicate, List.length_drop, List.length_take]; omega), by unfold maxLen; first | omega | (simp only [List.length_map, List.length_append, List.length_cons, List.length_nil, List.length_replicate, List.length_drop, List.length_take]; omega), ?_⟩)
    | (refine hK _ _ rfl ?_; clear hK K; try refine go ?_)
    | (refine am_retP rfl ?_ rfl; first | refine go ?_ | rfl)
    | (refine am_retC [] rfl ?_ rfl rfl; first | refine go ?_ | rfl)
    | (refine wkp ?_)
    | (refine am_rs tabOk kOk rfl fun K Q1 hK => ?_; refine go ?_)
    | (refine am_ds mixed tabOk kOk rfl rfl fun K hK => ?_; refine go ?_)
    | (refine am_dreg mixed tabOk kOk rfl rfl fun K hK => ?_; refine go ?_)
  all_goals
    have hw : 1 ≤ p → p ≤ 1000 → IntKind.i64.wrap (p - 1) = p - 1 := fun h1 h2 => wrapN (by omega) (by omega)
    have hz : o = 0 → cmF ⟨a, b, o, x, y, z⟩ = 0 → a = 0 := fun h1 h2 => cmF0 (c := ⟨a, b, o, x, y, z⟩) h1 h2
    simp only [TV.c.injEq, CV.t.injEq, Tree.v.injEq, Value.bool.injEq]
    rw [Bool.eq_iff_iff]
    simp only [clF, inB, szF, bbeq, decide_eq_true_eq, decide_eq_false_iff_not, Bool.and_eq_true, beq_iff_eq, Bool.false_eq_true, false_iff, true_iff] at *
    omega
end Go.Proofs.YtaolgdpkcbfocaaA
