/- What is known of the small functions; commands told. -/
import Derived.Test.YthnpbfljoghbmaaFBase
namespace Go.Proofs.YthnpbfljoghbmaaA
open Go.Proofs
set_option autoImplicit false
set_option linter.unusedVariables false
set_option linter.unusedSimpArgs false
set_option maxRecDepth 4000

def kIn : List TV → Option TV
  | [.c (.t (.v (.int .i64 a))), .c (.t (.v (.int .i64 lo))), .c (.t (.v (.int .i64 hi)))] => some (bool (inB a lo hi))
  | _ => none
def unB : List (List Tree) → Option (List Bool)
  | [] => some []
  | [.v (.bool b)] :: l => (unB l).map (b :: ·)
  | _ => none
def brokenK (bs : List Bool) : Option TV := if bs.length ≤ 1000 then some (int (fb bs 0)) else none
def kBroken : List TV → Option TV
  | [.c (.t (.sl 1 xs))] => (unB xs).bind brokenK
  | _ => none
theorem unB_ok : ∀ {xs : List (List Tree)} {bs : List Bool}, unB xs = some bs → xs = bs.map encB
  | [], bs, h => by cases h; rfl
  | [.v (.bool b)] :: l, bs, h => by
    simp only [unB] at h
    cases hl : unB l with
    | none => rw [hl] at h; cases h
    | some bs' => rw [hl] at h; cases h; rw [unB_ok hl]; rfl
theorem l1in_tc (a lo hi : Int) : TC Try.prog 65 [int a, int lo, int hi] [] 1 (bool (inB a lo hi)) [] 1 := by
  refine tc_intro Try.func65 rfl 15 rfl (Nat.le_of_ble_eq_true rfl) (by decide) [6] rfl (by intro id x h; cases h) ?_
  intro w0 E0
  have kOk := k0
  refine wk ?_
  refine am_rs tabOk kOk rfl fun K Q1 hK => ?_
  refine go ?_
  refine guardP_mk (fun h => ?_) (fun h => ?_)
  · refine go ?_
    refine hK _ (am_retP rfl ?_ rfl)
    refine go ?_
    simp only [decide_eq_true_eq] at h
    simp [inB, h]
  · refine go ?_
    refine hK _ (am_retP rfl ?_ rfl)
    refine go ?_
    simp only [Bool.not_true, decide_eq_false_iff_not] at h
    have : ¬ lo ≤ a := by omega
    simp [inB, this]
def call1 (f : FuncId) (args : List TV) : Option TV := if f = 86 then kIn args else if f = 65 then kIn args else if f = 160 then kBroken args else none
def kn1 : Kn := { call := call1, eqs := eqTys }
attribute [go_sem] kIn unB brokenK kBroken call1 kn1
theorem call1_ok : ∀ f args res, call1 f args = some res → TC Try.prog f args [] 1 res [] 1 := by
  intro f args res h
  unfold call1 at h
  split at h
  · rename_i e; subst e
    unfold kIn at h
    split at h
    · cases h; exact within_tc _ _ _
    · cases h
  split at h
  · rename_i e; subst e
    unfold kIn at h
    split at h
    · cases h; exact l1in_tc _ _ _
    · cases h
  split at h
  · rename_i e; subst e
    unfold kBroken at h
    split at h
    · rename_i xs
      cases hb : unB xs with
      | none => rw [hb] at h; cases h
      | some bs =>
        rw [hb] at h
        simp only [Option.bind_some, brokenK] at h
        split at h
        · rename_i hl; cases h; rw [unB_ok hb]; exact firstBroken_tc bs hl
        · cases h
    · cases h
  · cases h
theorem k1 : KnOk Try.prog kn1 := ⟨call1_ok, eqTysOk, (fun f args o r o1 n h => by cases h)⟩
theorem bempty (x : ByteArray) : (x = { data := #[] }) = (x.size = 0) := propext ⟨fun h => by rw [h]; rfl, fun h => by
  obtain ⟨⟨l⟩⟩ := x
  have : l = [] := List.length_eq_zero_iff.1 h
  rw [this]⟩

/-! ### Commands -/
structure Cm where
  cl : Int
  sq : Int
  op : Int
  k : ByteArray
  v : ByteArray
  o : ByteArray
def Cm.cv (c : Cm) : List CV := [ci c.cl, ci c.sq, ci c.op, cs c.k, cs c.v, cs c.o]
def cmF (c : Cm) : Int :=
  if c.op < 0 ∨ 4 < c.op then 1
  else if c.op = 0 then (if c.cl ≠ 0 then 2 else if c.sq ≠ 0 then 3 else if c.k.size ≠ 0 then 4 else if c.v.size ≠ 0 then 5 else if c.o.size ≠ 0 then 6 else 0)
  else if c.cl < 1 ∨ 8 < c.cl then 2 else if c.sq < 1 ∨ 1073741824 < c.sq then 3 else if c.k.size < 1 ∨ 64 < c.k.size then 4
  else if (if c.op = 2 ∨ c.op = 4 then 64 else 0) < c.v.size then 5 else if (if c.op = 4 then 64 else 0) < c.o.size then 6 else 0
set_option maxHeartbeats 8000000 in
theorem cmdS_tc (c : Cm) : TC Try.prog 126 [.agg c.cv] [] 1 (int (cmF c)) [] 1 := by
  refine tc_intro Try.func126 rfl 81 rfl (Nat.le_of_ble_eq_true rfl) (by decide) [2] rfl (by intro id x h; cases h) ?_
  intro w0 E0
  have kOk := k0
  obtain ⟨a, q, o, x, y, z⟩ := c
  simp only [Cm.cv]
  repeat' (fail_if_success (with_reducible apply amR_id)); first
    | (refine guardP_mk (fun h => ?_) (fun h => ?_) <;> (refine go ?_; try simp only [decide_eq_true_eq, decide_eq_false_iff_not, Bool.not_true, Bool.not_false, Bool.not_eq_true', Bool.not_eq_false', beq_iff_eq, bne_iff_ne, beq_eq_false_iff_ne, bne_eq_false_iff_eq, ne_eq, Bool.false_eq_true, reduceCtorEq] at h))
    | (refine hK _ ?_; clear hK K Q1)
    | (refine ⟨by first | omega | (simp only [List.length_map, List.length_append, List.length_cons, List.length_nil, List.length_replicate, List.length_drop, List.length_take]; omega), by unfold maxLen; first | omega | (simp only [List.length_map, List.length_append, List.length_cons, List.length_nil, List.length_replicate, List.length_drop, List.length_take]; omega), ?_⟩)
    | (refine hK _ _ rfl ?_; clear hK K; try refine go ?_)
    | (refine am_retP rfl ?_ rfl; first | refine go ?_ | rfl)
    | (refine am_retC [] rfl ?_ rfl rfl; first | refine go ?_ | rfl)
    | (refine wkp ?_)
    | (refine am_rs tabOk kOk rfl fun K Q1 hK => ?_; refine go ?_)
    | (refine am_reg tabOk kOk rfl fun K Q1 hK => ?_; refine go ?_)
    | (refine am_ds mixed tabOk kOk rfl rfl fun K hK => ?_; refine go ?_)
    | (refine am_dreg mixed tabOk kOk rfl rfl fun K hK => ?_; refine go ?_)
  all_goals first | (exfalso; omega) | simp (disch := omega) only [cmF, if_pos, if_neg]
set_option maxHeartbeats 8000000 in
theorem cmdI_tc (c : Cm) : TC Try.prog 131 [.agg c.cv] [] 1 (int (cmF c)) [] 1 := by
  refine tc_intro Try.func131 rfl 56 rfl (Nat.le_of_ble_eq_true rfl) (by decide) [2] rfl (by intro id x h; cases h) ?_
  intro w0 E0
  have kOk := k1
  obtain ⟨a, q, o, x, y, z⟩ := c
  simp only [Cm.cv]
  repeat' (fail_if_success (with_reducible apply amR_id)); first
    | (refine guardP_mk (fun h => ?_) (fun h => ?_) <;> (refine go ?_; try simp only [decide_eq_true_eq, decide_eq_false_iff_not, Bool.not_true, Bool.not_false, Bool.not_eq_true', Bool.not_eq_false', beq_iff_eq, bne_iff_ne, beq_eq_false_iff_ne, bne_eq_false_iff_eq, ne_eq, Bool.false_eq_true, reduceCtorEq] at h))
    | (refine hK _ ?_; clear hK K Q1)
    | (refine ⟨by first | omega | (simp only [List.length_map, List.length_append, List.length_cons, List.length_nil, List.length_replicate, List.length_drop, List.length_take]; omega), by unfold maxLen; first | omega | (simp only [List.length_map, List.length_append, List.length_cons, List.length_nil, List.length_replicate, List.length_drop, List.length_take]; omega), ?_⟩)
    | (refine hK _ _ rfl ?_; clear hK K; try refine go ?_)
    | (refine am_retP rfl ?_ rfl; first | refine go ?_ | rfl)
    | (refine am_retC [] rfl ?_ rfl rfl; first | refine go ?_ | rfl)
    | (refine wkp ?_)
    | (refine am_rs tabOk kOk rfl fun K Q1 hK => ?_; refine go ?_)
    | (refine am_reg tabOk kOk rfl fun K Q1 hK => ?_; refine go ?_)
    | (refine am_ds mixed tabOk kOk rfl rfl fun K hK => ?_; refine go ?_)
    | (refine am_dreg mixed tabOk kOk rfl rfl fun K hK => ?_; refine go ?_)
  all_goals (simp only [fb, inB, cmF, decide_eq_true_eq, beq_iff_eq, bempty, TV.c.injEq, CV.t.injEq, Tree.v.injEq, Value.int.injEq, true_and, if_true]; (repeat' split) <;> omega)
end Go.Proofs.YthnpbfljoghbmaaA
