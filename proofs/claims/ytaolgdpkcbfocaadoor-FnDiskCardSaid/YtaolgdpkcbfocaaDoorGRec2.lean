/- Records: their faults, their bytes. -/
import Derived.Test.YtaolgdpkcbfocaaDoorGRec
namespace Go.Proofs.YtaolgdpkcbfocaaDoorA
open Go.Proofs
set_option autoImplicit false
set_option linter.unusedVariables false
set_option linter.unusedSimpArgs false
set_option maxRecDepth 4000
def hardF (t v : Int) : Bool := decide ((0 ≤ t ∧ t ≤ 1073741824) ∧ (0 ≤ v ∧ v ≤ 7) ∧ (t = 0 → v = 0))
theorem hard_tc (t v : Int) : TC Tryd.prog 103 [int t, int v] [] 1 (bool (hardF t v)) [] 1 := by
  refine tc_intro Tryd.func103 rfl 19 rfl (Nat.le_of_ble_eq_true rfl) (by decide) [4] rfl (by intro id x h; cases h) ?_
  intro w0 E0
  have kOk := k78
  repeat' (fail_if_success (with_reducible apply amR_id)); first
    | (refine guardP_mk (fun h => ?_) (fun h => ?_) <;> (refine go ?_; try simp only [decide_eq_true_eq, decide_eq_false_iff_not, Bool.not_true, Bool.not_false, Bool.not_eq_true', Bool.not_eq_false', beq_iff_eq, bne_iff_ne, beq_eq_false_iff_ne, bne_eq_false_iff_eq, ne_eq, Bool.false_eq_true, reduceCtorEq] at h))
    | (refine hK _ ?_; clear hK K Q1)
    | (refine ⟨by first | omega | (simp only [List.length_map, List.length_append, List.length_cons, List.length_nil, List.length_replicate, List.length_drop, List.length_take]; omega), by unfold maxLen; first | omega | (simp only [List.length_map, List.length_append, List.length_cons, List.length_nil, List.length_replicate, List.length_drop, List.length_take]; omega), ?_⟩)
    | (refine hK _ _ rfl ?_; clear hK K; try refine go ?_)
    | (refine am_retP rfl ?_ rfl; first | refine go ?_ | rfl)
    | (refine am_retC [] rfl ?_ rfl rfl; first | refine go ?_ | rfl)
    | (refine wkp ?_)
    | (refine am_rs tabOk kOk rfl fun K Q1 hK => ?_; refine go ?_)
    | (refine am_reg tabOk kOk rfl fun K Q1 hK => ?_; refine go ?_)
    | (refine am_ds mixed tabOk kOk rfl rfl fun K hK => ?_; refine go ?_)
    | (refine am_dreg mixed tabOk kOk rfl rfl fun K hK => ?_; refine go ?_)
  all_goals (simp only [TV.c.injEq, CV.t.injEq, Tree.v.injEq, Value.bool.injEq]; rw [Bool.eq_iff_iff]; simp only [hardF, inB, decide_eq_true_eq, decide_eq_false_iff_not, beq_iff_eq, Bool.false_eq_true, false_iff, true_iff] at *; omega)
def kn101_0_0 (t : Int) (v : Int) : Option TV := some (bool (hardF t v))
def kn101_0 : List TV → Option TV
  | [.c (.t (.v (.int .i64 t))), .c (.t (.v (.int .i64 v)))] => kn101_0_0 t v
  | _ => none
def kn101_call (f : FuncId) (args : List TV) : Option TV := if f = 103 then orO (kn101_0 args) (kn78.call f args) else kn78.call f args
def kn101 : Kn := { call := kn101_call, eqs := eqTys, callB := kn78.callB }
attribute [go_sem] kn101_0_0 kn101_0 kn101_call kn101
theorem kn101_ok : ∀ f args res, kn101_call f args = some res → TC Tryd.prog f args [] 1 res [] 1 := by
  intro f args res h
  unfold kn101_call at h
  split at h
  · rename_i e; subst e
    have hh := orO_elim h
    clear h
    rcases hh with h | h
    rotate_left
    · exact k78.call _ _ _ h
    unfold kn101_0 at h
    split at h
    · rename_i t v; unfold kn101_0_0 at h
      cases h; exact hard_tc t v
    · cases h
  · exact k78.call f args res h
theorem k101 : KnOk Tryd.prog kn101 := ⟨kn101_ok, eqTysOk, k78.callB⟩
def zeroE (e : Ent) : Prop := e.term = 0 ∧ zeroC e.m
instance (e : Ent) : Decidable (zeroE e) := inferInstanceAs (Decidable (e.term = 0 ∧ zeroC e.m))
def rcF (r : Rec) : Bool := decide ((r.kd = 1 ∧ r.ix = 0 ∧ zeroE r.e ∧ (0 ≤ r.te ∧ r.te ≤ 1073741824) ∧ (0 ≤ r.vo ∧ r.vo ≤ 7) ∧ (r.te = 0 → r.vo = 0)) ∨ (r.kd = 2 ∧ r.te = 0 ∧ r.vo = 0 ∧ (1 ≤ r.ix ∧ r.ix ≤ 4096) ∧ entOk r.e = true) ∨ (r.kd = 3 ∧ r.te = 0 ∧ r.vo = 0 ∧ zeroE r.e ∧ 0 ≤ r.ix ∧ r.ix ≤ 4096))
set_option maxHeartbeats 16000000 in
theorem recI_tc (r : Rec) : TC Tryd.prog 88 [.c (.rp r.tr)] [] 1 (int (if rcF r = true then 0 else 1)) [] 1 := by
  refine tc_intro Tryd.func88 rfl 94 rfl (Nat.le_of_ble_eq_true rfl) (by decide) [2] rfl (by intro id x h; cases h) ?_
  intro w0 E0
  have kOk := k101
  obtain ⟨kd, te, vo, ix, ⟨t, ⟨a, b, o, x, y, z⟩⟩⟩ := r
  simp only [Rec.tr]
  refine am_rs tabOk kOk rfl fun K Q1 hK => ?_
  refine go ?_
  refine hK _ ?_
  clear hK K Q1
  refine am_rs tabOk kOk rfl fun K Q1 hK => ?_
  refine go ?_
  refine hK _ ?_
  clear hK K Q1
  refine am_scut True ⟨[(3, bool (rcF ⟨kd, te, vo, ix, ⟨t, ⟨a, b, o, x, y, z⟩⟩⟩))], [], 1⟩ (fun _ => ?_) fun KC hKC => ?_
  rotate_left
  · skip
    repeat' (fail_if_success (with_reducible apply amR_id)); first
      | (refine guardP_mk (fun h => ?_) (fun h => ?_) <;> (refine go ?_; try simp only [decide_eq_true_eq, decide_eq_false_iff_not, Bool.not_true, Bool.not_false, Bool.not_eq_true', Bool.not_eq_false', beq_iff_eq, bne_iff_ne, beq_eq_false_iff_ne, bne_eq_false_iff_eq, ne_eq, Bool.false_eq_true, reduceCtorEq] at h))
      | (refine hK _ ?_; clear hK K Q1)
      | (refine ⟨by first | omega | (simp only [List.length_map, List.length_append, List.length_cons, List.length_nil, List.length_replicate, List.length_drop, List.length_take]; omega), by unfold maxLen; first | omega | (simp only [List.length_map, List.length_append, List.length_cons, List.length_nil, List.length_replicate, List.length_drop, List.length_take]; omega), ?_⟩)
      | (refine hK _ _ rfl ?_; clear hK K; try refine go ?_)
      | (refine am_retP rfl ?_ rfl; first | refine go ?_ | rfl)
      | (refine am_retC [] rfl ?_ rfl rfl; first | refine go ?_ | rfl)
      | (refine wkp ?_)
      | (refine am_rs tabOk kOk rfl fun K Q1 hK => ?_; refine go ?_)
      | (refine am_reg tabOk kOk rfl fun K Q1 hK => ?_; refine go ?_)
      | (refine am_ds mixed tabOk kOk rfl rfl fun K hK => ?_; refine go ?_)
      | (refine am_dreg mixed tabOk kOk rfl rfl fun K hK => ?_; refine go ?_)
    all_goals (refine hKC _ [] [3] 1 True.intro rfl ?_; clear hKC; refine go ?_; simp only [St.mk.injEq, List.cons.injEq, Prod.mk.injEq, TV.c.injEq, CV.t.injEq, Tree.v.injEq, Value.bool.injEq, true_and, and_true]; rw [Bool.eq_iff_iff]; simp only [rcF, zeroE, zeroC, hardF, bbeq, inB, decide_eq_true_eq, decide_eq_false_iff_not, Bool.and_eq_true, beq_iff_eq, Bool.false_eq_true, false_iff, true_iff] at * <;> first | omega | grind)
  generalize rcF ⟨kd, te, vo, ix, ⟨t, ⟨a, b, o, x, y, z⟩⟩⟩ = B
  cases B <;> (refine wk ?_; refine am_retP rfl ?_ rfl; first | rfl | (refine go ?_; rfl))
set_option maxHeartbeats 16000000 in
theorem recS_tc (r : Rec) : TC Tryd.prog 86 [.agg r.cv] [] 1 (bool (rcF r)) [] 1 := by
  refine tc_intro Tryd.func86 rfl 74 rfl (Nat.le_of_ble_eq_true rfl) (by decide) [2] rfl (by intro id x h; cases h) ?_
  intro w0 E0
  have kOk := k101
  obtain ⟨kd, te, vo, ix, ⟨t, ⟨a, b, o, x, y, z⟩⟩⟩ := r
  simp only [Rec.cv, Cm.cv]
  refine am_rs tabOk kOk rfl fun K Q1 hK => ?_
  refine go ?_
  refine hK _ ?_
  clear hK K Q1
  refine am_scut True ⟨[(1, .c (.ptr 1 0)), (3, bool (decide (zeroE ⟨t, ⟨a, b, o, x, y, z⟩⟩)))], [(1, .cells [ci kd, ci te, ci vo, ci ix, ci t, ci a, ci b, ci o, cs x, cs y, cs z])], 2⟩ (fun _ => ?_) fun KC hKC => ?_
  rotate_left
  · refine am_reg tabOk kOk rfl fun K Q1 hK => ?_
    refine go ?_
    repeat' (fail_if_success (with_reducible apply amR_id)); first
      | (refine guardP_mk (fun h => ?_) (fun h => ?_) <;> (refine go ?_; try simp only [decide_eq_true_eq, decide_eq_false_iff_not, Bool.not_true, Bool.not_false, Bool.not_eq_true', Bool.not_eq_false', beq_iff_eq, bne_iff_ne, beq_eq_false_iff_ne, bne_eq_false_iff_eq, ne_eq, Bool.false_eq_true, reduceCtorEq] at h))
      | (refine hK _ ?_; clear hK K Q1)
      | (refine ⟨by first | omega | (simp only [List.length_map, List.length_append, List.length_cons, List.length_nil, List.length_replicate, List.length_drop, List.length_take]; omega), by unfold maxLen; first | omega | (simp only [List.length_map, List.length_append, List.length_cons, List.length_nil, List.length_replicate, List.length_drop, List.length_take]; omega), ?_⟩)
      | (refine hK _ _ rfl ?_; clear hK K; try refine go ?_)
      | (refine am_retP rfl ?_ rfl; first | refine go ?_ | rfl)
      | (refine am_retC [] rfl ?_ rfl rfl; first | refine go ?_ | rfl)
      | (refine wkp ?_)
      | (refine am_rs tabOk kOk rfl fun K Q1 hK => ?_; refine go ?_)
      | (refine am_reg tabOk kOk rfl fun K Q1 hK => ?_; refine go ?_)
      | (refine am_ds mixed tabOk kOk rfl rfl fun K hK => ?_; refine go ?_)
      | (refine am_dreg mixed tabOk kOk rfl rfl fun K hK => ?_; refine go ?_)
    all_goals (refine hKC _ [(1, 1)] [1, 3] 2 True.intro rfl ?_; clear hKC; refine go ?_; simp only [St.mk.injEq, List.cons.injEq, Prod.mk.injEq, TV.c.injEq, CV.t.injEq, Tree.v.injEq, Value.bool.injEq, true_and, and_true]; rw [Bool.eq_iff_iff]; simp only [zeroE, zeroC, bbeq, decide_eq_true_eq, decide_eq_false_iff_not, Bool.and_eq_true, beq_iff_eq, Bool.false_eq_true, false_iff, true_iff] at * <;> first | omega | grind)
  repeat' (fail_if_success (with_reducible apply amR_id)); first
    | (refine guardP_mk (fun h => ?_) (fun h => ?_) <;> (refine go ?_; try simp only [decide_eq_true_eq, decide_eq_false_iff_not, Bool.not_true, Bool.not_false, Bool.not_eq_true', Bool.not_eq_false', beq_iff_eq, bne_iff_ne, beq_eq_false_iff_ne, bne_eq_false_iff_eq, ne_eq, Bool.false_eq_true, reduceCtorEq] at h))
    | (refine hK _ ?_; clear hK K Q1)
    | (refine ⟨by first | omega | (simp only [List.length_map, List.length_append, List.length_cons, List.length_nil, List.length_replicate, List.length_drop, List.length_take]; omega), by unfold maxLen; first | omega | (simp only [List.length_map, List.length_append, List.length_cons, List.length_nil, List.length_replicate, List.length_drop, List.length_take]; omega), ?_⟩)
    | (refine hK _ _ rfl ?_; clear hK K; try refine go ?_)
    | (refine am_retP rfl ?_ rfl; first | refine go ?_ | rfl)
    | (refine am_retC [] rfl ?_ rfl rfl; first | refine go ?_ | rfl)
    | (refine wkp ?_)
    | (refine am_rs tabOk kOk rfl fun K Q1 hK => ?_; refine go ?_)
    | (refine am_reg tabOk kOk rfl fun K Q1 hK => ?_; refine go ?_)
    | (refine am_ds mixed tabOk kOk rfl rfl fun K hK => ?_; refine go ?_)
    | (refine am_dreg mixed tabOk kOk rfl rfl fun K hK => ?_; refine go ?_)
  all_goals (simp only [TV.c.injEq, CV.t.injEq, Tree.v.injEq, Value.bool.injEq]; rw [Bool.eq_iff_iff]; simp only [rcF, inB, decide_eq_true_eq, decide_eq_false_iff_not, Bool.and_eq_true, beq_iff_eq, bne_iff_ne, Bool.false_eq_true, false_iff, true_iff] at * <;> first | omega | grind)
def kn102_0_1 (r : Rec) : CB := some (int (if rcF r = true then 0 else 1), [], 1)
def kn102_0_0 (q0 : List Tree) : CB := (unRecT q0).bind (kn102_0_1)
def kn102_0 : List TV → List (Nat × AObj) → CB
  | [.c (.rp q0)], [] => kn102_0_0 q0
  | _, _ => none
def kn102_call (f : FuncId) (args : List TV) (o : List (Nat × AObj)) : CB := if f = 88 then orO (kn102_0 args o) (kn101.callB f args o) else kn101.callB f args o
def kn102 : Kn := { call := kn101.call, eqs := eqTys, callB := kn102_call }
attribute [go_sem] kn102_0_0 kn102_0_1 kn102_0 kn102_call kn102
theorem kn102_ok : ∀ f args o res o1 n1, kn102_call f args o = some (res, o1, n1) → TC Tryd.prog f args o (o.length + 1) res o1 n1 := by
  intro f args o res o1 n1 h
  unfold kn102_call at h
  split at h
  · rename_i e; subst e
    have hh := orO_elim h
    clear h
    rcases hh with h | h
    rotate_left
    · exact k101.callB _ _ _ _ _ _ h
    unfold kn102_0 at h
    split at h
    · rename_i q0; unfold kn102_0_0 at h
      have hb0 := Option.bind_eq_some_iff.1 h
      clear h
      obtain ⟨r, e0, h⟩ := hb0
      unfold kn102_0_1 at h
      cases h; rw [unRecT_ok e0]; exact recI_tc r
    · cases h
  · exact k101.callB f args o res o1 n1 h
theorem k102 : KnOk Tryd.prog kn102 := ⟨k101.call, eqTysOk, kn102_ok⟩
def kn103_0_1 (r : Rec) : Option TV := some (bool (rcF r))
def kn103_0_0 (r0 : List CV) : Option TV := (unRec r0).bind (kn103_0_1)
def kn103_0 : List TV → Option TV
  | [.agg r0] => kn103_0_0 r0
  | _ => none
def kn103_call (f : FuncId) (args : List TV) : Option TV := if f = 86 then orO (kn103_0 args) (kn102.call f args) else kn102.call f args
def kn103 : Kn := { call := kn103_call, eqs := eqTys, callB := kn102.callB }
attribute [go_sem] kn103_0_0 kn103_0_1 kn103_0 kn103_call kn103
theorem kn103_ok : ∀ f args res, kn103_call f args = some res → TC Tryd.prog f args [] 1 res [] 1 := by
  intro f args res h
  unfold kn103_call at h
  split at h
  · rename_i e; subst e
    have hh := orO_elim h
    clear h
    rcases hh with h | h
    rotate_left
    · exact k102.call _ _ _ h
    unfold kn103_0 at h
    split at h
    · rename_i r0; unfold kn103_0_0 at h
      obtain ⟨r, e0, h⟩ := Option.bind_eq_some_iff.1 h
      unfold kn103_0_1 at h
      cases h; rw [unRec_ok e0]; exact recS_tc r
    · cases h
  · exact k102.call f args res h
theorem k103 : KnOk Tryd.prog kn103 := ⟨kn103_ok, eqTysOk, k102.callB⟩
attribute [go_sem] unRecT
/-- Whether all are well-formed. -/
def rsAll : List Rec → Bool
  | [] => true
  | r :: l => rcF r && rsAll l
theorem rsAll_drop {l : List Rec} {k : Nat} {e : Rec} (h : l[k]? = some e) : rsAll (l.drop k) = (rcF e && rsAll (l.drop (k + 1))) := by
  have hk := (List.getElem?_eq_some_iff.1 h).1
  rw [List.drop_eq_getElem_cons hk]
  have : l[k] = e := by rw [List.getElem?_eq_getElem hk] at h; exact Option.some.inj h
  simp only [rsAll, this]
theorem rsAll_mem : ∀ {l : List Rec}, rsAll l = true → ∀ r, r ∈ l → rcF r = true
  | r :: l, h, x, hx => by
    simp only [rsAll, Bool.and_eq_true] at h
    rcases List.mem_cons.1 hx with rfl | hx
    · exact h.1
    · exact rsAll_mem h.2 x hx
def rsF (l : List Rec) : Bool := decide (l.length ≤ 8192) && rsAll l
set_option maxHeartbeats 8000000 in
theorem rsI_tc (l : List Rec) (hl : l.length ≤ 1048576) : TC Tryd.prog 57 [ro 11 (l.map Rec.tr)] [] 1 (bool (rsF l)) [] 1 := by
  refine tc_intro Tryd.func57 rfl 18 rfl (Nat.le_of_ble_eq_true rfl) (by decide) [2] rfl (by intro id x h; cases h) ?_
  intro w0 E0
  have kOk := k103
  refine am_rs tabOk kOk rfl fun K Q1 hK => ?_
  refine go ?_
  refine hK _ ?_
  clear hK K Q1
  by_cases h8 : l.length ≤ 8192
  rotate_left
  · have hp := (show ((l.length : Int) > 8192) = True from eq_true (by omega))
    repeat' (fail_if_success (with_reducible apply amR_id)); first
      | (refine guardP_mk (fun h => ?_) (fun h => ?_) <;> (refine go1 ?_; try simp only [decide_eq_true_eq, decide_eq_false_iff_not, Bool.not_true, Bool.not_false, Bool.not_eq_true', Bool.not_eq_false', beq_iff_eq, bne_iff_ne, beq_eq_false_iff_ne, bne_eq_false_iff_eq, ne_eq, Bool.false_eq_true, reduceCtorEq] at h))
      | (refine hK _ ?_; clear hK K Q1)
      | (refine ⟨by first | omega | (simp only [List.length_map, List.length_append, List.length_cons, List.length_nil, List.length_replicate, List.length_drop, List.length_take]; omega), by unfold maxLen; first | omega | (simp only [List.length_map, List.length_append, List.length_cons, List.length_nil, List.length_replicate, List.length_drop, List.length_take]; omega), ?_⟩)
      | (refine hK _ _ rfl ?_; clear hK K; try refine go1 ?_)
      | (refine am_retP rfl ?_ rfl; first | refine go ?_ | rfl)
      | (refine am_retC [] rfl ?_ rfl rfl; first | refine go ?_ | rfl)
      | (refine wkq ?_)
      | (refine am_rs tabOk kOk rfl fun K Q1 hK => ?_; refine go1 ?_)
      | (refine am_reg tabOk kOk rfl fun K Q1 hK => ?_; refine go1 ?_)
      | (refine am_ds mixed tabOk kOk rfl rfl fun K hK => ?_; refine go1 ?_)
      | (refine am_dreg mixed tabOk kOk rfl rfl fun K hK => ?_; refine go1 ?_)
    all_goals (have h9 : rsF l = false := (by simp [rsF, h8]); rw [h9])
  have hp := (show ((l.length : Int) > 8192) = False from eq_false (by omega))
  have hr : rsF l = rsAll l := by simp [rsF, h8]
  rw [hr]
  refine wk1 ?_
  refine am_tidy [] [0, 8, 9] 1 rfl ?_
  refine go1 ?_
  clear hp
  refine am_loop (l.length + 1) ?_
  suffices key : ∀ (d k : Nat), k + d = l.length → rsAll (l.drop k) = rsAll l → amR Tryd.prog _ _ _ (d + 1) ⟨[(0, ro 11 (l.map Rec.tr)), (8, int (l.length : Nat)), (9, int (k : Nat))], [], 1⟩ from key l.length 0 (by simp) rfl
  intro d
  induction d with
  | zero =>
    intro k hk hf
    refine amR_succ ?_
    rw [List.drop_eq_nil_of_le (by omega)] at hf
    have hp := (show ((k : Int) < (l.length : Int)) = False from eq_false (by omega))
    repeat' (fail_if_success (with_reducible apply amR_id)); first
      | (refine guardP_mk (fun h => ?_) (fun h => ?_) <;> (refine go1 ?_; try simp only [decide_eq_true_eq, decide_eq_false_iff_not, Bool.not_true, Bool.not_false, Bool.not_eq_true', Bool.not_eq_false', beq_iff_eq, bne_iff_ne, beq_eq_false_iff_ne, bne_eq_false_iff_eq, ne_eq, Bool.false_eq_true, reduceCtorEq] at h))
      | (refine hK _ ?_; clear hK K Q1)
      | (refine ⟨by first | omega | (simp only [List.length_map, List.length_append, List.length_cons, List.length_nil, List.length_replicate, List.length_drop, List.length_take]; omega), by unfold maxLen; first | omega | (simp only [List.length_map, List.length_append, List.length_cons, List.length_nil, List.length_replicate, List.length_drop, List.length_take]; omega), ?_⟩)
      | (refine hK _ _ rfl ?_; clear hK K; try refine go1 ?_)
      | (refine am_retP rfl ?_ rfl; first | refine go ?_ | rfl)
      | (refine am_retC [] rfl ?_ rfl rfl; first | refine go ?_ | rfl)
      | (refine wkq ?_)
      | (refine am_rs tabOk kOk rfl fun K Q1 hK => ?_; refine go1 ?_)
      | (refine am_reg tabOk kOk rfl fun K Q1 hK => ?_; refine go1 ?_)
      | (refine am_ds mixed tabOk kOk rfl rfl fun K hK => ?_; refine go1 ?_)
      | (refine am_dreg mixed tabOk kOk rfl rfl fun K hK => ?_; refine go1 ?_)
    all_goals (rw [← hf]; rfl)
  | succ d ih =>
    intro k hk hf
    obtain ⟨e, he⟩ : ∃ e, l[k]? = some e := ⟨l[k]'(by omega), List.getElem?_eq_getElem (by omega)⟩
    rw [rsAll_drop he] at hf
    have hp := (show ((k : Int) < (l.length : Int)) = True ∧ (l.map Rec.tr)[k]? = some e.tr ∧ IntKind.i64.wrap ((k : Int) + 1) = ((k + 1 : Nat) : Int) from ⟨eq_true (by omega), by rw [List.getElem?_map, he]; rfl, by rw [wrapN (by omega) (by omega)]; rfl⟩)
    by_cases hB : rcF e = true
    · rw [hB, Bool.true_and] at hf
      have hp := And.intro hp (And.intro hB (show ((0 : Int) != 0) = false from rfl))
      obtain ⟨kd, te, vo, ix, ⟨t, ⟨a, b, o, x, y, z⟩⟩⟩ := e
      simp only [Rec.tr] at hp
      refine amR_succ ?_
      refine wk1 ?_
      refine amR_tidy [] [0, 8, 9] 1 rfl ?_
      refine go1 ?_
      exact ih (k + 1) (by omega) hf
    · have hB' : rcF e = false := by simpa using hB
      rw [hB', Bool.false_and] at hf
      have hp := And.intro hp (And.intro hB' (show ((1 : Int) != 0) = true from rfl))
      obtain ⟨kd, te, vo, ix, ⟨t, ⟨a, b, o, x, y, z⟩⟩⟩ := e
      simp only [Rec.tr] at hp
      rw [← hf]
      refine amR_succ ?_
      repeat' (fail_if_success (with_reducible apply amR_id)); first
        | (refine guardP_mk (fun h => ?_) (fun h => ?_) <;> (refine go1 ?_; try simp only [decide_eq_true_eq, decide_eq_false_iff_not, Bool.not_true, Bool.not_false, Bool.not_eq_true', Bool.not_eq_false', beq_iff_eq, bne_iff_ne, beq_eq_false_iff_ne, bne_eq_false_iff_eq, ne_eq, Bool.false_eq_true, reduceCtorEq] at h))
        | (refine hK _ ?_; clear hK K Q1)
        | (refine ⟨by first | omega | (simp only [List.length_map, List.length_append, List.length_cons, List.length_nil, List.length_replicate, List.length_drop, List.length_take]; omega), by unfold maxLen; first | omega | (simp only [List.length_map, List.length_append, List.length_cons, List.length_nil, List.length_replicate, List.length_drop, List.length_take]; omega), ?_⟩)
        | (refine hK _ _ rfl ?_; clear hK K; try refine go1 ?_)
        | (refine am_retP rfl ?_ rfl; first | refine go ?_ | rfl)
        | (refine am_retC [] rfl ?_ rfl rfl; first | refine go ?_ | rfl)
        | (refine wkq ?_)
        | (refine am_rs tabOk kOk rfl fun K Q1 hK => ?_; refine go1 ?_)
        | (refine am_reg tabOk kOk rfl fun K Q1 hK => ?_; refine go1 ?_)
        | (refine am_ds mixed tabOk kOk rfl rfl fun K hK => ?_; refine go1 ?_)
        | (refine am_dreg mixed tabOk kOk rfl rfl fun K hK => ?_; refine go1 ?_)
      all_goals first | rfl | (exfalso; omega)
set_option maxHeartbeats 8000000 in
theorem rsS_tc (l : List Rec) (hl : l.length ≤ 1048576) : TC Tryd.prog 54 [ro 11 (l.map Rec.tr)] [] 1 (bool (rsF l)) [] 1 := by
  refine tc_intro Tryd.func54 rfl 19 rfl (Nat.le_of_ble_eq_true rfl) (by decide) [2] rfl (by intro id x h; cases h) ?_
  intro w0 E0
  have kOk := k103
  refine am_rs tabOk kOk rfl fun K Q1 hK => ?_
  refine go ?_
  refine hK _ ?_
  clear hK K Q1
  by_cases h8 : l.length ≤ 8192
  rotate_left
  · have hp := (show ((l.length : Int) > 8192) = True from eq_true (by omega))
    repeat' (fail_if_success (with_reducible apply amR_id)); first
      | (refine guardP_mk (fun h => ?_) (fun h => ?_) <;> (refine go1 ?_; try simp only [decide_eq_true_eq, decide_eq_false_iff_not, Bool.not_true, Bool.not_false, Bool.not_eq_true', Bool.not_eq_false', beq_iff_eq, bne_iff_ne, beq_eq_false_iff_ne, bne_eq_false_iff_eq, ne_eq, Bool.false_eq_true, reduceCtorEq] at h))
      | (refine hK _ ?_; clear hK K Q1)
      | (refine ⟨by first | omega | (simp only [List.length_map, List.length_append, List.length_cons, List.length_nil, List.length_replicate, List.length_drop, List.length_take]; omega), by unfold maxLen; first | omega | (simp only [List.length_map, List.length_append, List.length_cons, List.length_nil, List.length_replicate, List.length_drop, List.length_take]; omega), ?_⟩)
      | (refine hK _ _ rfl ?_; clear hK K; try refine go1 ?_)
      | (refine am_retP rfl ?_ rfl; first | refine go ?_ | rfl)
      | (refine am_retC [] rfl ?_ rfl rfl; first | refine go ?_ | rfl)
      | (refine wkq ?_)
      | (refine am_rs tabOk kOk rfl fun K Q1 hK => ?_; refine go1 ?_)
      | (refine am_reg tabOk kOk rfl fun K Q1 hK => ?_; refine go1 ?_)
      | (refine am_ds mixed tabOk kOk rfl rfl fun K hK => ?_; refine go1 ?_)
      | (refine am_dreg mixed tabOk kOk rfl rfl fun K hK => ?_; refine go1 ?_)
    all_goals (have h9 : rsF l = false := (by simp [rsF, h8]); rw [h9])
  have hp := (show ((l.length : Int) > 8192) = False from eq_false (by omega))
  have hr : rsF l = rsAll l := by simp [rsF, h8]
  rw [hr]
  refine wk1 ?_
  refine am_tidy [] [0, 3] 1 rfl ?_
  refine go1 ?_
  clear hp
  refine am_loop (l.length + 1) ?_
  suffices key : ∀ (d k : Nat), k + d = l.length → rsAll (l.drop k) = rsAll l → amR Tryd.prog _ _ _ (d + 1) ⟨[(0, ro 11 (l.map Rec.tr)), (3, int (k : Nat))], [], 1⟩ from key l.length 0 (by simp) rfl
  intro d
  induction d with
  | zero =>
    intro k hk hf
    refine amR_succ ?_
    rw [List.drop_eq_nil_of_le (by omega)] at hf
    have hp := (show ((k : Int) < (l.length : Int)) = False from eq_false (by omega))
    repeat' (fail_if_success (with_reducible apply amR_id)); first
      | (refine guardP_mk (fun h => ?_) (fun h => ?_) <;> (refine go1 ?_; try simp only [decide_eq_true_eq, decide_eq_false_iff_not, Bool.not_true, Bool.not_false, Bool.not_eq_true', Bool.not_eq_false', beq_iff_eq, bne_iff_ne, beq_eq_false_iff_ne, bne_eq_false_iff_eq, ne_eq, Bool.false_eq_true, reduceCtorEq] at h))
      | (refine hK _ ?_; clear hK K Q1)
      | (refine ⟨by first | omega | (simp only [List.length_map, List.length_append, List.length_cons, List.length_nil, List.length_replicate, List.length_drop, List.length_take]; omega), by unfold maxLen; first | omega | (simp only [List.length_map, List.length_append, List.length_cons, List.length_nil, List.length_replicate, List.length_drop, List.length_take]; omega), ?_⟩)
      | (refine hK _ _ rfl ?_; clear hK K; try refine go1 ?_)
      | (refine am_retP rfl ?_ rfl; first | refine go ?_ | rfl)
      | (refine am_retC [] rfl ?_ rfl rfl; first | refine go ?_ | rfl)
      | (refine wkq ?_)
      | (refine am_rs tabOk kOk rfl fun K Q1 hK => ?_; refine go1 ?_)
      | (refine am_reg tabOk kOk rfl fun K Q1 hK => ?_; refine go1 ?_)
      | (refine am_ds mixed tabOk kOk rfl rfl fun K hK => ?_; refine go1 ?_)
      | (refine am_dreg mixed tabOk kOk rfl rfl fun K hK => ?_; refine go1 ?_)
    all_goals (rw [← hf]; rfl)
  | succ d ih =>
    intro k hk hf
    obtain ⟨e, he⟩ : ∃ e, l[k]? = some e := ⟨l[k]'(by omega), List.getElem?_eq_getElem (by omega)⟩
    rw [rsAll_drop he] at hf
    have hp := (show ((k : Int) < (l.length : Int)) = True ∧ (l.map Rec.tr)[k]? = some e.tr ∧ IntKind.i64.wrap ((k : Int) + 1) = ((k + 1 : Nat) : Int) from ⟨eq_true (by omega), by rw [List.getElem?_map, he]; rfl, by rw [wrapN (by omega) (by omega)]; rfl⟩)
    by_cases hB : rcF e = true
    · rw [hB, Bool.true_and] at hf
      have hp := And.intro hp hB
      obtain ⟨kd, te, vo, ix, ⟨t, ⟨a, b, o, x, y, z⟩⟩⟩ := e
      simp only [Rec.tr] at hp
      refine amR_succ ?_
      refine wk1 ?_
      refine amR_tidy [] [0, 3] 1 rfl ?_
      refine go1 ?_
      exact ih (k + 1) (by omega) hf
    · have hB' : rcF e = false := by simpa using hB
      rw [hB', Bool.false_and] at hf
      have hp := And.intro hp hB'
      obtain ⟨kd, te, vo, ix, ⟨t, ⟨a, b, o, x, y, z⟩⟩⟩ := e
      simp only [Rec.tr] at hp
      rw [← hf]
      refine amR_succ ?_
      repeat' (fail_if_success (with_reducible apply amR_id)); first
        | (refine guardP_mk (fun h => ?_) (fun h => ?_) <;> (refine go1 ?_; try simp only [decide_eq_true_eq, decide_eq_false_iff_not, Bool.not_true, Bool.not_false, Bool.not_eq_true', Bool.not_eq_false', beq_iff_eq, bne_iff_ne, beq_eq_false_iff_ne, bne_eq_false_iff_eq, ne_eq, Bool.false_eq_true, reduceCtorEq] at h))
        | (refine hK _ ?_; clear hK K Q1)
        | (refine ⟨by first | omega | (simp only [List.length_map, List.length_append, List.length_cons, List.length_nil, List.length_replicate, List.length_drop, List.length_take]; omega), by unfold maxLen; first | omega | (simp only [List.length_map, List.length_append, List.length_cons, List.length_nil, List.length_replicate, List.length_drop, List.length_take]; omega), ?_⟩)
        | (refine hK _ _ rfl ?_; clear hK K; try refine go1 ?_)
        | (refine am_retP rfl ?_ rfl; first | refine go ?_ | rfl)
        | (refine am_retC [] rfl ?_ rfl rfl; first | refine go ?_ | rfl)
        | (refine wkq ?_)
        | (refine am_rs tabOk kOk rfl fun K Q1 hK => ?_; refine go1 ?_)
        | (refine am_reg tabOk kOk rfl fun K Q1 hK => ?_; refine go1 ?_)
        | (refine am_ds mixed tabOk kOk rfl rfl fun K hK => ?_; refine go1 ?_)
        | (refine am_dreg mixed tabOk kOk rfl rfl fun K hK => ?_; refine go1 ?_)
      all_goals first | rfl | (exfalso; omega)
/-! ### Bytes -/
def recB (r : Rec) : List Int := if r.kd = 1 then numL r.te ++ numL r.vo else if r.kd = 2 then numL r.ix ++ entL r.e else numL r.ix
def recW (bs : List Int) (r : Rec) : List Int := bs ++ recB r
theorem rec_small {r : Rec} (h : rcF r = true) : (1 ≤ r.kd ∧ r.kd ≤ 3) ∧ r.te ≤ 1073741824 ∧ r.vo ≤ 7 ∧ r.ix ≤ 4096 ∧ (r.kd = 2 → entOk r.e = true) := by
  simp only [rcF, decide_eq_true_eq] at h
  rcases h with h | h | h
  · exact ⟨by omega, by omega, by omega, by omega, fun h2 => by omega⟩
  · exact ⟨by omega, by omega, by omega, by omega, fun _ => h.2.2.2.2⟩
  · exact ⟨by omega, by omega, by omega, by omega, fun h2 => by omega⟩
theorem recB_len {r : Rec} (h : rcF r = true) : (recB r).length ≤ 272 := by
  obtain ⟨h1, h2, h3, h4, h5⟩ := rec_small h
  have a1 := numL_len r.te
  have a2 := numL_len r.vo
  have a3 := numL_len r.ix
  unfold recB
  split
  · simp only [List.length_append]; omega
  · split
    · rename_i h9
      have a4 := entL_len (h5 h9)
      simp only [List.length_append]; omega
    · omega
theorem recB_ok (r : Rec) : okB (recB r) := by
  unfold recB
  split
  · exact okB_app (numL_ok _) (numL_ok _)
  · split
    · exact okB_app (numL_ok _) (entL_ok _)
    · exact numL_ok _
set_option maxHeartbeats 16000000 in
theorem recW_tc (r : Rec) (bs : List Int) (h : rcF r = true) (hb : bs.length ≤ 10000) : TC Tryd.prog 136 [.c (.rp r.tr), .c (.ptr 1 0)] [(1, .cells [.own 2 0 bs.length]), (2, .arr 5 1 (bs.map bTr))] 3
    (.tup []) [(1, .cells [.own 3 0 (recW bs r).length]), (3, .arr 5 1 ((recW bs r).map bTr))] 4 := by
  obtain ⟨h1, h2, h3, h4, h5⟩ := rec_small h
  clear h
  obtain ⟨kd, te, vo, ix, ⟨t, ⟨a, b, o, x, y, z⟩⟩⟩ := r
  simp only at h1 h2 h3 h4 h5
  have a3 := numL_len ix
  have hk : kd = 1 ∨ kd = 2 ∨ kd = 3 := by omega
  rcases hk with rfl | rfl | rfl
  · have e : recW bs ⟨1, te, vo, ix, ⟨t, ⟨a, b, o, x, y, z⟩⟩⟩ = bs ++ (numL te ++ numL vo) := by simp [recW, recB]
    rw [e]
    simp only [Rec.tr]
    refine tc_intro Tryd.func136 rfl 45 rfl (Nat.le_of_ble_eq_true rfl) (by decide) [] rfl dom2 ?_
    intro w0 E0
    have kOk := k103
    have hp := (show (te ≤ 9223372036854775807) = True ∧ (vo ≤ 9223372036854775807) = True ∧ (bs.length ≤ 1048576) = True ∧ ((1:Int) == 1) = true from ⟨eq_true (by omega), eq_true (by omega), eq_true (by omega), by simp⟩)
    refine wk1 ?_
    refine ret_norm [(1, 1), (2, 2), (4, 3)] rfl ?_ ?_
    · rfl
    · rfl
  · have hE := h5 rfl
    have e : recW bs ⟨2, te, vo, ix, ⟨t, ⟨a, b, o, x, y, z⟩⟩⟩ = (bs ++ numL ix) ++ entL ⟨t, ⟨a, b, o, x, y, z⟩⟩ := by simp [recW, recB]
    rw [e]
    simp only [Rec.tr]
    refine tc_intro Tryd.func136 rfl 45 rfl (Nat.le_of_ble_eq_true rfl) (by decide) [] rfl dom2 ?_
    intro w0 E0
    have kOk := k103
    have hp := (show (ix ≤ 9223372036854775807) = True ∧ (bs.length ≤ 1048576) = True ∧ ((2:Int) == 1) = false ∧ ((2:Int) == 2) = true ∧ entOk ⟨t, ⟨a, b, o, x, y, z⟩⟩ = true ∧ ((bs ++ numL ix).length ≤ 90000) = True from ⟨eq_true (by omega), eq_true (by omega), by simp, by simp, hE, eq_true (by rw [List.length_append]; omega)⟩)
    refine wk1 ?_
    refine ret_norm [(1, 1), (2, 2), (5, 3)] rfl ?_ ?_
    · rfl
    · rfl
  · have e : recW bs ⟨3, te, vo, ix, ⟨t, ⟨a, b, o, x, y, z⟩⟩⟩ = bs ++ numL ix := by simp [recW, recB]
    rw [e]
    simp only [Rec.tr]
    refine tc_intro Tryd.func136 rfl 45 rfl (Nat.le_of_ble_eq_true rfl) (by decide) [] rfl dom2 ?_
    intro w0 E0
    have kOk := k103
    have hp := (show (ix ≤ 9223372036854775807) = True ∧ (bs.length ≤ 1048576) = True ∧ ((3:Int) == 1) = false ∧ ((3:Int) == 2) = false ∧ ((3:Int) == 3) = true from ⟨eq_true (by omega), eq_true (by omega), by simp, by simp, by simp⟩)
    refine wk1 ?_
    refine ret_norm [(1, 1), (2, 2), (4, 3)] rfl ?_ ?_
    · rfl
    · rfl
theorem firstR_tc (r : Rec) (h0 : 1 ≤ r.kd) (h1 : r.kd ≤ 3) : TC Tryd.prog 82 [.c (.irp 102 r.tr)] [] 1 (lit (.int .u8 (10 + r.kd))) [] 1 := by
  obtain ⟨kd, te, vo, ix, ⟨t, ⟨a, b, o, x, y, z⟩⟩⟩ := r
  simp only at h0 h1
  simp only [Rec.tr]
  refine tc_intro Tryd.func82 rfl 32 rfl (Nat.le_of_ble_eq_true rfl) (by decide) [2] rfl (by intro id x h; cases h) ?_
  intro w0 E0
  have kOk := k103
  have hp := (show IntKind.i64.wrap (10 + kd) = 10 + kd ∧ IntKind.u8.wrap (10 + kd) = 10 + kd from ⟨wrapN (by omega) (by omega), by rw [IntKind.wrap_u8']; omega⟩)
  refine wk1 ?_
  refine am_retP rfl ?_ rfl
  first | rfl | (refine go1 ?_; rfl)
end Go.Proofs.YtaolgdpkcbfocaaDoorA
