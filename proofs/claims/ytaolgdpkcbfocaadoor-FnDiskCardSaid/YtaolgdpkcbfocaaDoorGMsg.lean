/- Messages: their faults, both ways. -/
import Derived.Test.YtaolgdpkcbfocaaDoorGOrd
namespace Go.Proofs.YtaolgdpkcbfocaaDoorA
open Go.Proofs
set_option autoImplicit false
set_option linter.unusedVariables false
set_option linter.unusedSimpArgs false
set_option maxRecDepth 4000
/-- A statement, and what comes behind it from ONE state, with what is known there. -/
theorem am_scut {P : Program} {C : Ctx} {Q : Exit → St → Prop} {st : St} {x z : Code} (F : Prop) (st1 : St) (hz : F → am P C z Q st1)
    (hx : ∀ K : St → Prop, (∀ (st' : St) (ρ : List (Nat × Nat)) (ts : List Nat) (N : Nat), F → tidyOk C.n0 ρ N = true → st'.tidy ρ ts N = st1 → K st') → am P C x (thenQ K Q) st) : am P C (.seq x z) Q st :=
  am_seq (hx _ fun st' ρ ts N hF hok he => am_tidy ρ ts N hok (by rw [he]; exact hz hF))
structure Ms where
  (kd fr to te li lt co ok hi : Int)
  es : List Ent
def Ms.cv (m : Ms) : List CV := [ci m.kd, ci m.fr, ci m.to, ci m.te, ci m.li, ci m.lt, ci m.co, ci m.ok, ci m.hi, .t (.sl 7 (m.es.map Ent.tr))]
deriving instance DecidableEq for Ms
def unMs : List CV → Option Ms
  | [.t (.v (.int .i64 a)), .t (.v (.int .i64 b)), .t (.v (.int .i64 c)), .t (.v (.int .i64 d)), .t (.v (.int .i64 e)), .t (.v (.int .i64 f)), .t (.v (.int .i64 g)), .t (.v (.int .i64 h)), .t (.v (.int .i64 i)), .t (.sl 7 xs)] => (unEnts xs).map (Ms.mk a b c d e f g h i)
  | _ => none
theorem unMs_ok {xs : List CV} {c : Ms} (h : unMs xs = some c) : xs = c.cv := by
  unfold unMs at h
  split at h
  · rename_i ys
    cases hy : unEnts ys with
    | none => rw [hy] at h; cases h
    | some l => rw [hy] at h; cases h; rw [unEnts_ok hy]; rfl
  · cases h
attribute [go_sem] unMs Ms.cv
def askB (kd : Int) : Bool := decide (kd = 1 ∨ kd = 3 ∨ kd = 5)
def posB (kd te li lt : Int) : Bool := decide ((kd = 1 ∨ kd = 3 ∨ kd = 5) ∧ 0 ≤ li ∧ li ≤ 4096 ∧ 0 ≤ lt ∧ lt ≤ te ∧ (li = 0 ↔ lt = 0) ∨ ¬ (kd = 1 ∨ kd = 3 ∨ kd = 5) ∧ lt = 0 ∧ 0 ≤ li ∧ li ≤ 4096 ∧ (kd = 6 ∨ li = 0))
def mr1B (kd co : Int) : Bool := decide (kd = 5 ∧ 0 ≤ co ∧ co ≤ 4096 ∨ kd ≠ 5 ∧ co = 0)
def mr2B (kd co ok : Int) : Bool := decide ((kd = 5 ∧ 0 ≤ co ∧ co ≤ 4096 ∨ kd ≠ 5 ∧ co = 0) ∧ (ok = 0 ∨ ok = 1 ∧ ¬ (kd = 1 ∨ kd = 3 ∨ kd = 5)))
def mrkB (kd co ok hi : Int) : Bool := decide ((kd = 5 ∧ 0 ≤ co ∧ co ≤ 4096 ∨ kd ≠ 5 ∧ co = 0) ∧ (ok = 0 ∨ ok = 1 ∧ ¬ (kd = 1 ∨ kd = 3 ∨ kd = 5)) ∧ (hi = 0 ∨ kd = 6 ∧ ok = 0 ∧ 0 ≤ hi ∧ hi ≤ 4096))
def entB (kd li lt te : Int) (es : List Ent) : Bool := decide (kd = 5 ∧ (es.length : Int) ≤ 32 ∧ IntKind.i64.wrap (li + (es.length : Int)) ≤ 4096 ∧ risF es lt te = true ∨ kd ≠ 5 ∧ (es.length : Int) = 0)
def srvB (fr to : Int) : Bool := decide (1 ≤ fr ∧ fr ≤ 7 ∧ 1 ≤ to ∧ to ≤ 7 ∧ fr ≠ to)
/-- The number of the first rule that is broken. -/
def msF (m : Ms) : Int := fb [inB m.kd 1 6, srvB m.fr m.to, inB m.te 1 1073741824, posB m.kd m.te m.li m.lt, mrkB m.kd m.co m.ok m.hi, entB m.kd m.li m.lt m.te m.es] 0
set_option maxHeartbeats 32000000 in
theorem msgI_tc (m : Ms) (hl : m.es.length ≤ 1048576) : TC Tryd.prog 140 [.agg m.cv] [] 1 (int (msF m)) [] 1 := by
  obtain ⟨kd, fr, to, te, li, lt, co, ok, hi, es⟩ := m
  simp only [Ms.cv]
  simp only at hl
  refine tc_intro Tryd.func140 rfl 161 rfl (Nat.le_of_ble_eq_true rfl) (by decide) [2] rfl (by intro id x h; cases h) ?_
  intro w0 E0
  have kOk := k76
  have hp := eq_true hl
  refine am_rs tabOk kOk rfl fun K Q1 hK => ?_
  refine go1 ?_
  refine hK _ ?_
  clear hK K Q1
  refine am_scut True ⟨[(1, .c (.ptr 1 0)), (3, bool (askB kd))], [(1, .cells [ci kd, ci fr, ci to, ci te, ci li, ci lt, ci co, ci ok, ci hi, .t (.sl 7 (es.map Ent.tr))])], 2⟩ (fun _ => ?_) fun KC hKC => ?_
  rotate_left
  · refine am_reg tabOk kOk rfl fun K Q1 hK => ?_
    refine go1 ?_
    repeat' (fail_if_success (with_reducible apply amR_id)); first
      | (refine guardP_mk (fun h => ?_) (fun h => ?_) <;> (refine go1 ?_; try simp only [decide_eq_true_eq, decide_eq_false_iff_not, Bool.not_true, Bool.not_false, Bool.not_eq_true', Bool.not_eq_false', beq_iff_eq, bne_iff_ne, beq_eq_false_iff_ne, bne_eq_false_iff_eq, ne_eq, Bool.false_eq_true, reduceCtorEq] at h))
      | (refine hK _ ?_; clear hK K Q1)
      | (refine ⟨by first | omega | (simp only [List.length_map, List.length_append, List.length_cons, List.length_nil, List.length_replicate, List.length_drop, List.length_take]; omega), by unfold maxLen; first | omega | (simp only [List.length_map, List.length_append, List.length_cons, List.length_nil, List.length_replicate, List.length_drop, List.length_take]; omega), ?_⟩)
      | (refine hK _ _ rfl ?_; clear hK K; try refine go1 ?_)
      | (refine am_retP rfl ?_ rfl; first | refine go ?_ | rfl)
      | (refine am_retC [] rfl ?_ rfl rfl; first | refine go ?_ | rfl)
      | (refine wkq ?_)
      | (refine am_rs tabOk kOk rfl fun K Q1 hK => ?_; refine go1 ?_)
      | (refine am_reg tabOk kOk rfl fun K Q1 hK => ?_; refine go1 ?_)
      | (refine am_ds mixed tabOk kOk rfl rfl fun K hK => ?_; refine go1 ?_)
      | (refine am_dreg mixed tabOk kOk rfl rfl fun K hK => ?_; refine go1 ?_)
    all_goals (refine hKC _ [(1, 1)] [1, 3] 2 True.intro rfl ?_; clear hKC hp; refine go ?_; simp only [St.mk.injEq, List.cons.injEq, Prod.mk.injEq, TV.c.injEq, CV.t.injEq, Tree.v.injEq, Value.bool.injEq, true_and, and_true]; rw [Bool.eq_iff_iff]; simp only [askB, posB, mr1B, mr2B, mrkB, entB, srvB, inB, decide_eq_true_eq, decide_eq_false_iff_not, Bool.and_eq_true, Bool.or_eq_true, beq_iff_eq, bne_iff_ne, Bool.false_eq_true, false_iff, true_iff, Bool.true_eq_false] at * <;> first | omega | grind)
  refine am_scut True ⟨[(1, .c (.ptr 1 0)), (3, bool (askB kd)), (4, bool (decide (li = 0 ∧ lt = 0)))], [(1, .cells [ci kd, ci fr, ci to, ci te, ci li, ci lt, ci co, ci ok, ci hi, .t (.sl 7 (es.map Ent.tr))])], 2⟩ (fun _ => ?_) fun KC hKC => ?_
  rotate_left
  · refine am_reg tabOk kOk rfl fun K Q1 hK => ?_
    refine go1 ?_
    repeat' (fail_if_success (with_reducible apply amR_id)); first
      | (refine guardP_mk (fun h => ?_) (fun h => ?_) <;> (refine go1 ?_; try simp only [decide_eq_true_eq, decide_eq_false_iff_not, Bool.not_true, Bool.not_false, Bool.not_eq_true', Bool.not_eq_false', beq_iff_eq, bne_iff_ne, beq_eq_false_iff_ne, bne_eq_false_iff_eq, ne_eq, Bool.false_eq_true, reduceCtorEq] at h))
      | (refine hK _ ?_; clear hK K Q1)
      | (refine ⟨by first | omega | (simp only [List.length_map, List.length_append, List.length_cons, List.length_nil, List.length_replicate, List.length_drop, List.length_take]; omega), by unfold maxLen; first | omega | (simp only [List.length_map, List.length_append, List.length_cons, List.length_nil, List.length_replicate, List.length_drop, List.length_take]; omega), ?_⟩)
      | (refine hK _ _ rfl ?_; clear hK K; try refine go1 ?_)
      | (refine am_retP rfl ?_ rfl; first | refine go ?_ | rfl)
      | (refine am_retC [] rfl ?_ rfl rfl; first | refine go ?_ | rfl)
      | (refine wkq ?_)
      | (refine am_rs tabOk kOk rfl fun K Q1 hK => ?_; refine go1 ?_)
      | (refine am_reg tabOk kOk rfl fun K Q1 hK => ?_; refine go1 ?_)
      | (refine am_ds mixed tabOk kOk rfl rfl fun K hK => ?_; refine go1 ?_)
      | (refine am_dreg mixed tabOk kOk rfl rfl fun K hK => ?_; refine go1 ?_)
    all_goals (refine hKC _ [(1, 1)] [1, 3, 4] 2 True.intro rfl ?_; clear hKC hp; refine go ?_; simp only [St.mk.injEq, List.cons.injEq, Prod.mk.injEq, TV.c.injEq, CV.t.injEq, Tree.v.injEq, Value.bool.injEq, true_and, and_true]; rw [Bool.eq_iff_iff]; simp only [askB, posB, mr1B, mr2B, mrkB, entB, srvB, inB, decide_eq_true_eq, decide_eq_false_iff_not, Bool.and_eq_true, Bool.or_eq_true, beq_iff_eq, bne_iff_ne, Bool.false_eq_true, false_iff, true_iff, Bool.true_eq_false] at * <;> first | omega | grind)
  refine am_scut True ⟨[(1, .c (.ptr 1 0)), (3, bool (askB kd)), (4, bool (posB kd te li lt))], [(1, .cells [ci kd, ci fr, ci to, ci te, ci li, ci lt, ci co, ci ok, ci hi, .t (.sl 7 (es.map Ent.tr))])], 2⟩ (fun _ => ?_) fun KC hKC => ?_
  rotate_left
  · skip
    repeat' (fail_if_success (with_reducible apply amR_id)); first
      | (refine guardP_mk (fun h => ?_) (fun h => ?_) <;> (refine go1 ?_; try simp only [decide_eq_true_eq, decide_eq_false_iff_not, Bool.not_true, Bool.not_false, Bool.not_eq_true', Bool.not_eq_false', beq_iff_eq, bne_iff_ne, beq_eq_false_iff_ne, bne_eq_false_iff_eq, ne_eq, Bool.false_eq_true, reduceCtorEq] at h))
      | (refine hK _ ?_; clear hK K Q1)
      | (refine ⟨by first | omega | (simp only [List.length_map, List.length_append, List.length_cons, List.length_nil, List.length_replicate, List.length_drop, List.length_take]; omega), by unfold maxLen; first | omega | (simp only [List.length_map, List.length_append, List.length_cons, List.length_nil, List.length_replicate, List.length_drop, List.length_take]; omega), ?_⟩)
      | (refine hK _ _ rfl ?_; clear hK K; try refine go1 ?_)
      | (refine am_retP rfl ?_ rfl; first | refine go ?_ | rfl)
      | (refine am_retC [] rfl ?_ rfl rfl; first | refine go ?_ | rfl)
      | (refine wkq ?_)
      | (refine am_rs tabOk kOk rfl fun K Q1 hK => ?_; refine go1 ?_)
      | (refine am_reg tabOk kOk rfl fun K Q1 hK => ?_; refine go1 ?_)
      | (refine am_ds mixed tabOk kOk rfl rfl fun K hK => ?_; refine go1 ?_)
      | (refine am_dreg mixed tabOk kOk rfl rfl fun K hK => ?_; refine go1 ?_)
    all_goals (refine hKC _ [(1, 1)] [1, 3, 4] 2 True.intro rfl ?_; clear hKC hp; refine go ?_; simp only [St.mk.injEq, List.cons.injEq, Prod.mk.injEq, TV.c.injEq, CV.t.injEq, Tree.v.injEq, Value.bool.injEq, true_and, and_true]; rw [Bool.eq_iff_iff]; simp only [askB, posB, mr1B, mr2B, mrkB, entB, srvB, inB, decide_eq_true_eq, decide_eq_false_iff_not, Bool.and_eq_true, Bool.or_eq_true, beq_iff_eq, bne_iff_ne, Bool.false_eq_true, false_iff, true_iff, Bool.true_eq_false] at * <;> first | omega | grind)
  refine am_scut True ⟨[(1, .c (.ptr 1 0)), (3, bool (askB kd)), (4, bool (posB kd te li lt)), (5, bool (decide (co = 0)))], [(1, .cells [ci kd, ci fr, ci to, ci te, ci li, ci lt, ci co, ci ok, ci hi, .t (.sl 7 (es.map Ent.tr))])], 2⟩ (fun _ => ?_) fun KC hKC => ?_
  rotate_left
  · refine am_reg tabOk kOk rfl fun K Q1 hK => ?_
    refine go1 ?_
    repeat' (fail_if_success (with_reducible apply amR_id)); first
      | (refine guardP_mk (fun h => ?_) (fun h => ?_) <;> (refine go1 ?_; try simp only [decide_eq_true_eq, decide_eq_false_iff_not, Bool.not_true, Bool.not_false, Bool.not_eq_true', Bool.not_eq_false', beq_iff_eq, bne_iff_ne, beq_eq_false_iff_ne, bne_eq_false_iff_eq, ne_eq, Bool.false_eq_true, reduceCtorEq] at h))
      | (refine hK _ ?_; clear hK K Q1)
      | (refine ⟨by first | omega | (simp only [List.length_map, List.length_append, List.length_cons, List.length_nil, List.length_replicate, List.length_drop, List.length_take]; omega), by unfold maxLen; first | omega | (simp only [List.length_map, List.length_append, List.length_cons, List.length_nil, List.length_replicate, List.length_drop, List.length_take]; omega), ?_⟩)
      | (refine hK _ _ rfl ?_; clear hK K; try refine go1 ?_)
      | (refine am_retP rfl ?_ rfl; first | refine go ?_ | rfl)
      | (refine am_retC [] rfl ?_ rfl rfl; first | refine go ?_ | rfl)
      | (refine wkq ?_)
      | (refine am_rs tabOk kOk rfl fun K Q1 hK => ?_; refine go1 ?_)
      | (refine am_reg tabOk kOk rfl fun K Q1 hK => ?_; refine go1 ?_)
      | (refine am_ds mixed tabOk kOk rfl rfl fun K hK => ?_; refine go1 ?_)
      | (refine am_dreg mixed tabOk kOk rfl rfl fun K hK => ?_; refine go1 ?_)
    all_goals (refine hKC _ [(1, 1)] [1, 3, 4, 5] 2 True.intro rfl ?_; clear hKC hp; refine go ?_; simp only [St.mk.injEq, List.cons.injEq, Prod.mk.injEq, TV.c.injEq, CV.t.injEq, Tree.v.injEq, Value.bool.injEq, true_and, and_true]; rw [Bool.eq_iff_iff]; simp only [askB, posB, mr1B, mr2B, mrkB, entB, srvB, inB, decide_eq_true_eq, decide_eq_false_iff_not, Bool.and_eq_true, Bool.or_eq_true, beq_iff_eq, bne_iff_ne, Bool.false_eq_true, false_iff, true_iff, Bool.true_eq_false] at * <;> first | omega | grind)
  refine am_scut True ⟨[(1, .c (.ptr 1 0)), (3, bool (askB kd)), (4, bool (posB kd te li lt)), (5, bool (mr1B kd co))], [(1, .cells [ci kd, ci fr, ci to, ci te, ci li, ci lt, ci co, ci ok, ci hi, .t (.sl 7 (es.map Ent.tr))])], 2⟩ (fun _ => ?_) fun KC hKC => ?_
  rotate_left
  · skip
    repeat' (fail_if_success (with_reducible apply amR_id)); first
      | (refine guardP_mk (fun h => ?_) (fun h => ?_) <;> (refine go1 ?_; try simp only [decide_eq_true_eq, decide_eq_false_iff_not, Bool.not_true, Bool.not_false, Bool.not_eq_true', Bool.not_eq_false', beq_iff_eq, bne_iff_ne, beq_eq_false_iff_ne, bne_eq_false_iff_eq, ne_eq, Bool.false_eq_true, reduceCtorEq] at h))
      | (refine hK _ ?_; clear hK K Q1)
      | (refine ⟨by first | omega | (simp only [List.length_map, List.length_append, List.length_cons, List.length_nil, List.length_replicate, List.length_drop, List.length_take]; omega), by unfold maxLen; first | omega | (simp only [List.length_map, List.length_append, List.length_cons, List.length_nil, List.length_replicate, List.length_drop, List.length_take]; omega), ?_⟩)
      | (refine hK _ _ rfl ?_; clear hK K; try refine go1 ?_)
      | (refine am_retP rfl ?_ rfl; first | refine go ?_ | rfl)
      | (refine am_retC [] rfl ?_ rfl rfl; first | refine go ?_ | rfl)
      | (refine wkq ?_)
      | (refine am_rs tabOk kOk rfl fun K Q1 hK => ?_; refine go1 ?_)
      | (refine am_reg tabOk kOk rfl fun K Q1 hK => ?_; refine go1 ?_)
      | (refine am_ds mixed tabOk kOk rfl rfl fun K hK => ?_; refine go1 ?_)
      | (refine am_dreg mixed tabOk kOk rfl rfl fun K hK => ?_; refine go1 ?_)
    all_goals (refine hKC _ [(1, 1)] [1, 3, 4, 5] 2 True.intro rfl ?_; clear hKC hp; refine go ?_; simp only [St.mk.injEq, List.cons.injEq, Prod.mk.injEq, TV.c.injEq, CV.t.injEq, Tree.v.injEq, Value.bool.injEq, true_and, and_true]; rw [Bool.eq_iff_iff]; simp only [askB, posB, mr1B, mr2B, mrkB, entB, srvB, inB, decide_eq_true_eq, decide_eq_false_iff_not, Bool.and_eq_true, Bool.or_eq_true, beq_iff_eq, bne_iff_ne, Bool.false_eq_true, false_iff, true_iff, Bool.true_eq_false] at * <;> first | omega | grind)
  refine am_scut True ⟨[(1, .c (.ptr 1 0)), (3, bool (askB kd)), (4, bool (posB kd te li lt)), (5, bool (mr2B kd co ok))], [(1, .cells [ci kd, ci fr, ci to, ci te, ci li, ci lt, ci co, ci ok, ci hi, .t (.sl 7 (es.map Ent.tr))])], 2⟩ (fun _ => ?_) fun KC hKC => ?_
  rotate_left
  · refine am_reg tabOk kOk rfl fun K Q1 hK => ?_
    refine go1 ?_
    repeat' (fail_if_success (with_reducible apply amR_id)); first
      | (refine guardP_mk (fun h => ?_) (fun h => ?_) <;> (refine go1 ?_; try simp only [decide_eq_true_eq, decide_eq_false_iff_not, Bool.not_true, Bool.not_false, Bool.not_eq_true', Bool.not_eq_false', beq_iff_eq, bne_iff_ne, beq_eq_false_iff_ne, bne_eq_false_iff_eq, ne_eq, Bool.false_eq_true, reduceCtorEq] at h))
      | (refine hK _ ?_; clear hK K Q1)
      | (refine ⟨by first | omega | (simp only [List.length_map, List.length_append, List.length_cons, List.length_nil, List.length_replicate, List.length_drop, List.length_take]; omega), by unfold maxLen; first | omega | (simp only [List.length_map, List.length_append, List.length_cons, List.length_nil, List.length_replicate, List.length_drop, List.length_take]; omega), ?_⟩)
      | (refine hK _ _ rfl ?_; clear hK K; try refine go1 ?_)
      | (refine am_retP rfl ?_ rfl; first | refine go ?_ | rfl)
      | (refine am_retC [] rfl ?_ rfl rfl; first | refine go ?_ | rfl)
      | (refine wkq ?_)
      | (refine am_rs tabOk kOk rfl fun K Q1 hK => ?_; refine go1 ?_)
      | (refine am_reg tabOk kOk rfl fun K Q1 hK => ?_; refine go1 ?_)
      | (refine am_ds mixed tabOk kOk rfl rfl fun K hK => ?_; refine go1 ?_)
      | (refine am_dreg mixed tabOk kOk rfl rfl fun K hK => ?_; refine go1 ?_)
    all_goals (refine hKC _ [(1, 1)] [1, 3, 4, 5] 2 True.intro rfl ?_; clear hKC hp; refine go ?_; simp only [St.mk.injEq, List.cons.injEq, Prod.mk.injEq, TV.c.injEq, CV.t.injEq, Tree.v.injEq, Value.bool.injEq, true_and, and_true]; rw [Bool.eq_iff_iff]; simp only [askB, posB, mr1B, mr2B, mrkB, entB, srvB, inB, decide_eq_true_eq, decide_eq_false_iff_not, Bool.and_eq_true, Bool.or_eq_true, beq_iff_eq, bne_iff_ne, Bool.false_eq_true, false_iff, true_iff, Bool.true_eq_false] at * <;> first | omega | grind)
  refine am_scut True ⟨[(1, .c (.ptr 1 0)), (4, bool (posB kd te li lt)), (5, bool (mrkB kd co ok hi))], [(1, .cells [ci kd, ci fr, ci to, ci te, ci li, ci lt, ci co, ci ok, ci hi, .t (.sl 7 (es.map Ent.tr))])], 2⟩ (fun _ => ?_) fun KC hKC => ?_
  rotate_left
  · refine am_reg tabOk kOk rfl fun K Q1 hK => ?_
    refine go1 ?_
    repeat' (fail_if_success (with_reducible apply amR_id)); first
      | (refine guardP_mk (fun h => ?_) (fun h => ?_) <;> (refine go1 ?_; try simp only [decide_eq_true_eq, decide_eq_false_iff_not, Bool.not_true, Bool.not_false, Bool.not_eq_true', Bool.not_eq_false', beq_iff_eq, bne_iff_ne, beq_eq_false_iff_ne, bne_eq_false_iff_eq, ne_eq, Bool.false_eq_true, reduceCtorEq] at h))
      | (refine hK _ ?_; clear hK K Q1)
      | (refine ⟨by first | omega | (simp only [List.length_map, List.length_append, List.length_cons, List.length_nil, List.length_replicate, List.length_drop, List.length_take]; omega), by unfold maxLen; first | omega | (simp only [List.length_map, List.length_append, List.length_cons, List.length_nil, List.length_replicate, List.length_drop, List.length_take]; omega), ?_⟩)
      | (refine hK _ _ rfl ?_; clear hK K; try refine go1 ?_)
      | (refine am_retP rfl ?_ rfl; first | refine go ?_ | rfl)
      | (refine am_retC [] rfl ?_ rfl rfl; first | refine go ?_ | rfl)
      | (refine wkq ?_)
      | (refine am_rs tabOk kOk rfl fun K Q1 hK => ?_; refine go1 ?_)
      | (refine am_reg tabOk kOk rfl fun K Q1 hK => ?_; refine go1 ?_)
      | (refine am_ds mixed tabOk kOk rfl rfl fun K hK => ?_; refine go1 ?_)
      | (refine am_dreg mixed tabOk kOk rfl rfl fun K hK => ?_; refine go1 ?_)
    all_goals (refine hKC _ [(1, 1)] [1, 4, 5] 2 True.intro rfl ?_; clear hKC hp; refine go ?_; simp only [St.mk.injEq, List.cons.injEq, Prod.mk.injEq, TV.c.injEq, CV.t.injEq, Tree.v.injEq, Value.bool.injEq, true_and, and_true]; rw [Bool.eq_iff_iff]; simp only [askB, posB, mr1B, mr2B, mrkB, entB, srvB, inB, decide_eq_true_eq, decide_eq_false_iff_not, Bool.and_eq_true, Bool.or_eq_true, beq_iff_eq, bne_iff_ne, Bool.false_eq_true, false_iff, true_iff, Bool.true_eq_false] at * <;> first | omega | grind)
  refine am_scut True ⟨[(1, .c (.ptr 1 0)), (4, bool (posB kd te li lt)), (5, bool (mrkB kd co ok hi)), (6, bool (decide ((es.length : Int) = 0)))], [(1, .cells [ci kd, ci fr, ci to, ci te, ci li, ci lt, ci co, ci ok, ci hi, .t (.sl 7 (es.map Ent.tr))])], 2⟩ (fun _ => ?_) fun KC hKC => ?_
  rotate_left
  · refine am_reg tabOk kOk rfl fun K Q1 hK => ?_
    refine go1 ?_
    repeat' (fail_if_success (with_reducible apply amR_id)); first
      | (refine guardP_mk (fun h => ?_) (fun h => ?_) <;> (refine go1 ?_; try simp only [decide_eq_true_eq, decide_eq_false_iff_not, Bool.not_true, Bool.not_false, Bool.not_eq_true', Bool.not_eq_false', beq_iff_eq, bne_iff_ne, beq_eq_false_iff_ne, bne_eq_false_iff_eq, ne_eq, Bool.false_eq_true, reduceCtorEq] at h))
      | (refine hK _ ?_; clear hK K Q1)
      | (refine ⟨by first | omega | (simp only [List.length_map, List.length_append, List.length_cons, List.length_nil, List.length_replicate, List.length_drop, List.length_take]; omega), by unfold maxLen; first | omega | (simp only [List.length_map, List.length_append, List.length_cons, List.length_nil, List.length_replicate, List.length_drop, List.length_take]; omega), ?_⟩)
      | (refine hK _ _ rfl ?_; clear hK K; try refine go1 ?_)
      | (refine am_retP rfl ?_ rfl; first | refine go ?_ | rfl)
      | (refine am_retC [] rfl ?_ rfl rfl; first | refine go ?_ | rfl)
      | (refine wkq ?_)
      | (refine am_rs tabOk kOk rfl fun K Q1 hK => ?_; refine go1 ?_)
      | (refine am_reg tabOk kOk rfl fun K Q1 hK => ?_; refine go1 ?_)
      | (refine am_ds mixed tabOk kOk rfl rfl fun K hK => ?_; refine go1 ?_)
      | (refine am_dreg mixed tabOk kOk rfl rfl fun K hK => ?_; refine go1 ?_)
    all_goals (refine hKC _ [(1, 1)] [1, 4, 5, 6] 2 True.intro rfl ?_; clear hKC hp; refine go ?_; simp only [St.mk.injEq, List.cons.injEq, Prod.mk.injEq, TV.c.injEq, CV.t.injEq, Tree.v.injEq, Value.bool.injEq, true_and, and_true]; rw [Bool.eq_iff_iff]; simp only [askB, posB, mr1B, mr2B, mrkB, entB, srvB, inB, decide_eq_true_eq, decide_eq_false_iff_not, Bool.and_eq_true, Bool.or_eq_true, beq_iff_eq, bne_iff_ne, Bool.false_eq_true, false_iff, true_iff, Bool.true_eq_false] at * <;> first | omega | grind)
  refine am_scut True ⟨[(1, .c (.ptr 1 0)), (4, bool (posB kd te li lt)), (5, bool (mrkB kd co ok hi)), (6, bool (entB kd li lt te es))], [(1, .cells [ci kd, ci fr, ci to, ci te, ci li, ci lt, ci co, ci ok, ci hi, .t (.sl 7 (es.map Ent.tr))])], 2⟩ (fun _ => ?_) fun KC hKC => ?_
  rotate_left
  · skip
    repeat' (fail_if_success (with_reducible apply amR_id)); first
      | (refine guardP_mk (fun h => ?_) (fun h => ?_) <;> (refine go1 ?_; try simp only [decide_eq_true_eq, decide_eq_false_iff_not, Bool.not_true, Bool.not_false, Bool.not_eq_true', Bool.not_eq_false', beq_iff_eq, bne_iff_ne, beq_eq_false_iff_ne, bne_eq_false_iff_eq, ne_eq, Bool.false_eq_true, reduceCtorEq] at h))
      | (refine hK _ ?_; clear hK K Q1)
      | (refine ⟨by first | omega | (simp only [List.length_map, List.length_append, List.length_cons, List.length_nil, List.length_replicate, List.length_drop, List.length_take]; omega), by unfold maxLen; first | omega | (simp only [List.length_map, List.length_append, List.length_cons, List.length_nil, List.length_replicate, List.length_drop, List.length_take]; omega), ?_⟩)
      | (refine hK _ _ rfl ?_; clear hK K; try refine go1 ?_)
      | (refine am_retP rfl ?_ rfl; first | refine go ?_ | rfl)
      | (refine am_retC [] rfl ?_ rfl rfl; first | refine go ?_ | rfl)
      | (refine wkq ?_)
      | (refine am_rs tabOk kOk rfl fun K Q1 hK => ?_; refine go1 ?_)
      | (refine am_reg tabOk kOk rfl fun K Q1 hK => ?_; refine go1 ?_)
      | (refine am_ds mixed tabOk kOk rfl rfl fun K hK => ?_; refine go1 ?_)
      | (refine am_dreg mixed tabOk kOk rfl rfl fun K hK => ?_; refine go1 ?_)
    all_goals (refine hKC _ [(1, 1)] [1, 4, 5, 6] 2 True.intro rfl ?_; clear hKC hp; refine go ?_; simp only [St.mk.injEq, List.cons.injEq, Prod.mk.injEq, TV.c.injEq, CV.t.injEq, Tree.v.injEq, Value.bool.injEq, true_and, and_true]; rw [Bool.eq_iff_iff]; simp only [askB, posB, mr1B, mr2B, mrkB, entB, srvB, inB, decide_eq_true_eq, decide_eq_false_iff_not, Bool.and_eq_true, Bool.or_eq_true, beq_iff_eq, bne_iff_ne, Bool.false_eq_true, false_iff, true_iff, Bool.true_eq_false] at * <;> first | omega | grind)
  refine am_scut True ⟨[(1, .c (.ptr 1 0)), (4, bool (posB kd te li lt)), (5, bool (mrkB kd co ok hi)), (6, bool (entB kd li lt te es)), (7, bool (srvB fr to))], [(1, .cells [ci kd, ci fr, ci to, ci te, ci li, ci lt, ci co, ci ok, ci hi, .t (.sl 7 (es.map Ent.tr))])], 2⟩ (fun _ => ?_) fun KC hKC => ?_
  rotate_left
  · refine am_reg tabOk kOk rfl fun K Q1 hK => ?_
    refine go1 ?_
    repeat' (fail_if_success (with_reducible apply amR_id)); first
      | (refine guardP_mk (fun h => ?_) (fun h => ?_) <;> (refine go1 ?_; try simp only [decide_eq_true_eq, decide_eq_false_iff_not, Bool.not_true, Bool.not_false, Bool.not_eq_true', Bool.not_eq_false', beq_iff_eq, bne_iff_ne, beq_eq_false_iff_ne, bne_eq_false_iff_eq, ne_eq, Bool.false_eq_true, reduceCtorEq] at h))
      | (refine hK _ ?_; clear hK K Q1)
      | (refine ⟨by first | omega | (simp only [List.length_map, List.length_append, List.length_cons, List.length_nil, List.length_replicate, List.length_drop, List.length_take]; omega), by unfold maxLen; first | omega | (simp only [List.length_map, List.length_append, List.length_cons, List.length_nil, List.length_replicate, List.length_drop, List.length_take]; omega), ?_⟩)
      | (refine hK _ _ rfl ?_; clear hK K; try refine go1 ?_)
      | (refine am_retP rfl ?_ rfl; first | refine go ?_ | rfl)
      | (refine am_retC [] rfl ?_ rfl rfl; first | refine go ?_ | rfl)
      | (refine wkq ?_)
      | (refine am_rs tabOk kOk rfl fun K Q1 hK => ?_; refine go1 ?_)
      | (refine am_reg tabOk kOk rfl fun K Q1 hK => ?_; refine go1 ?_)
      | (refine am_ds mixed tabOk kOk rfl rfl fun K hK => ?_; refine go1 ?_)
      | (refine am_dreg mixed tabOk kOk rfl rfl fun K hK => ?_; refine go1 ?_)
    all_goals (refine hKC _ [(1, 1)] [1, 4, 5, 6, 7] 2 True.intro rfl ?_; clear hKC hp; refine go ?_; simp only [St.mk.injEq, List.cons.injEq, Prod.mk.injEq, TV.c.injEq, CV.t.injEq, Tree.v.injEq, Value.bool.injEq, true_and, and_true]; rw [Bool.eq_iff_iff]; simp only [askB, posB, mr1B, mr2B, mrkB, entB, srvB, inB, decide_eq_true_eq, decide_eq_false_iff_not, Bool.and_eq_true, Bool.or_eq_true, beq_iff_eq, bne_iff_ne, Bool.false_eq_true, false_iff, true_iff, Bool.true_eq_false] at * <;> first | omega | grind)
  repeat' (fail_if_success (with_reducible apply amR_id)); first
    | (refine guardP_mk (fun h => ?_) (fun h => ?_) <;> (refine go ?_; try simp only [decide_eq_true_eq, decide_eq_false_iff_not, Bool.not_true, Bool.not_false, Bool.not_eq_true', Bool.not_eq_false', beq_iff_eq, bne_iff_ne, beq_eq_false_iff_ne, bne_eq_false_iff_eq, ne_eq, Bool.false_eq_true, reduceCtorEq] at h))
    | (refine hK _ ?_; clear hK K Q1)
    | (refine ⟨by first | omega | (simp only [List.length_map, List.length_append, List.length_cons, List.length_nil, List.length_replicate, List.length_drop, List.length_take]; omega), by unfold maxLen; first | omega | (simp only [List.length_map, List.length_append, List.length_cons, List.length_nil, List.length_replicate, List.length_drop, List.length_take]; omega), ?_⟩)
    | (refine hK _ _ rfl ?_; clear hK K; try refine go ?_)
    | (refine am_retP rfl ?_ rfl; first | refine go ?_ | rfl)
    | (refine am_retC [] rfl ?_ rfl rfl; first | refine go ?_ | rfl)
    | (refine wkp ?_)
    | (refine am_rs tabOk kOk rfl fun K Q1 hK => ?_; refine go ?_)
    | (refine am_reg tabOk kOk rfl fun K Q1 hK => ?_; refine go ?_)
    | (refine am_ds mixed tabOk kOk rfl rfl fun K hK => ?_; refine go ?_)
    | (refine am_dreg mixed tabOk kOk rfl rfl fun K hK => ?_; refine go ?_)
  all_goals rfl
set_option maxHeartbeats 32000000 in
theorem msgS_tc (m : Ms) (hl : m.es.length ≤ 1048576) : TC Tryd.prog 61 [.agg m.cv] [] 1 (int (msF m)) [] 1 := by
  obtain ⟨kd, fr, to, te, li, lt, co, ok, hi, es⟩ := m
  simp only [Ms.cv]
  simp only at hl
  refine tc_intro Tryd.func61 rfl 161 rfl (Nat.le_of_ble_eq_true rfl) (by decide) [2] rfl (by intro id x h; cases h) ?_
  intro w0 E0
  have kOk := k76
  have hp := eq_true hl
  refine am_rs tabOk kOk rfl fun K Q1 hK => ?_
  refine go1 ?_
  refine hK _ ?_
  clear hK K Q1
  refine am_scut True ⟨[(1, .c (.ptr 1 0)), (3, int kd)], [(1, .cells [ci kd, ci fr, ci to, ci te, ci li, ci lt, ci co, ci ok, ci hi, .t (.sl 7 (es.map Ent.tr))])], 2⟩ (fun _ => ?_) fun KC hKC => ?_
  rotate_left
  · refine am_reg tabOk kOk rfl fun K Q1 hK => ?_
    refine go1 ?_
    repeat' (fail_if_success (with_reducible apply amR_id)); first
      | (refine guardP_mk (fun h => ?_) (fun h => ?_) <;> (refine go1 ?_; try simp only [decide_eq_true_eq, decide_eq_false_iff_not, Bool.not_true, Bool.not_false, Bool.not_eq_true', Bool.not_eq_false', beq_iff_eq, bne_iff_ne, beq_eq_false_iff_ne, bne_eq_false_iff_eq, ne_eq, Bool.false_eq_true, reduceCtorEq] at h))
      | (refine hK _ ?_; clear hK K Q1)
      | (refine ⟨by first | omega | (simp only [List.length_map, List.length_append, List.length_cons, List.length_nil, List.length_replicate, List.length_drop, List.length_take]; omega), by unfold maxLen; first | omega | (simp only [List.length_map, List.length_append, List.length_cons, List.length_nil, List.length_replicate, List.length_drop, List.length_take]; omega), ?_⟩)
      | (refine hK _ _ rfl ?_; clear hK K; try refine go1 ?_)
      | (refine am_retP rfl ?_ rfl; first | refine go ?_ | rfl)
      | (refine am_retC [] rfl ?_ rfl rfl; first | refine go ?_ | rfl)
      | (refine wkq ?_)
      | (refine am_rs tabOk kOk rfl fun K Q1 hK => ?_; refine go1 ?_)
      | (refine am_reg tabOk kOk rfl fun K Q1 hK => ?_; refine go1 ?_)
      | (refine am_ds mixed tabOk kOk rfl rfl fun K hK => ?_; refine go1 ?_)
      | (refine am_dreg mixed tabOk kOk rfl rfl fun K hK => ?_; refine go1 ?_)
    all_goals (refine hKC _ [(1, 1)] [1, 3] 2 True.intro rfl ?_; clear hKC hp; first | rfl | (refine go ?_; rfl))
  refine am_scut (inB kd 1 6 = true) ⟨[(1, .c (.ptr 1 0)), (3, int kd)], [(1, .cells [ci kd, ci fr, ci to, ci te, ci li, ci lt, ci co, ci ok, ci hi, .t (.sl 7 (es.map Ent.tr))])], 2⟩ (fun F1 => ?_) fun KC hKC => ?_
  rotate_left
  · skip
    repeat' (fail_if_success (with_reducible apply amR_id)); first
      | (refine guardP_mk (fun h => ?_) (fun h => ?_) <;> (refine go1 ?_; try simp only [decide_eq_true_eq, decide_eq_false_iff_not, Bool.not_true, Bool.not_false, Bool.not_eq_true', Bool.not_eq_false', beq_iff_eq, bne_iff_ne, beq_eq_false_iff_ne, bne_eq_false_iff_eq, ne_eq, Bool.false_eq_true, reduceCtorEq] at h))
      | (refine hK _ ?_; clear hK K Q1)
      | (refine ⟨by first | omega | (simp only [List.length_map, List.length_append, List.length_cons, List.length_nil, List.length_replicate, List.length_drop, List.length_take]; omega), by unfold maxLen; first | omega | (simp only [List.length_map, List.length_append, List.length_cons, List.length_nil, List.length_replicate, List.length_drop, List.length_take]; omega), ?_⟩)
      | (refine hK _ _ rfl ?_; clear hK K; try refine go1 ?_)
      | (refine am_retP rfl ?_ rfl; first | refine go ?_ | rfl)
      | (refine am_retC [] rfl ?_ rfl rfl; first | refine go ?_ | rfl)
      | (refine wkq ?_)
      | (refine am_rs tabOk kOk rfl fun K Q1 hK => ?_; refine go1 ?_)
      | (refine am_reg tabOk kOk rfl fun K Q1 hK => ?_; refine go1 ?_)
      | (refine am_ds mixed tabOk kOk rfl rfl fun K hK => ?_; refine go1 ?_)
      | (refine am_dreg mixed tabOk kOk rfl rfl fun K hK => ?_; refine go1 ?_)
    all_goals first
      | (refine hKC _ [(1, 1)] [1, 3] 2 ?_ rfl (by first | rfl | (refine go ?_; rfl)); clear hKC hp; (simp only [askB, posB, mr1B, mr2B, mrkB, entB, srvB, inB, decide_eq_true_eq, decide_eq_false_iff_not, Bool.and_eq_true, Bool.or_eq_true, beq_iff_eq, bne_iff_ne] at * <;> first | omega | grind))
      | (clear hp; have hb : inB kd 1 6 = false := (by rw [← Bool.not_eq_true]; simp only [askB, posB, mr1B, mr2B, mrkB, entB, srvB, inB, decide_eq_true_eq, decide_eq_false_iff_not, Bool.and_eq_true, Bool.or_eq_true, beq_iff_eq, bne_iff_ne] at * <;> first | omega | grind); simp only [msF, fb, hb, if_true, Bool.false_eq_true, if_false]; rfl)
  refine am_scut (srvB fr to = true) ⟨[(1, .c (.ptr 1 0)), (3, int kd)], [(1, .cells [ci kd, ci fr, ci to, ci te, ci li, ci lt, ci co, ci ok, ci hi, .t (.sl 7 (es.map Ent.tr))])], 2⟩ (fun F2 => ?_) fun KC hKC => ?_
  rotate_left
  · skip
    repeat' (fail_if_success (with_reducible apply amR_id)); first
      | (refine guardP_mk (fun h => ?_) (fun h => ?_) <;> (refine go1 ?_; try simp only [decide_eq_true_eq, decide_eq_false_iff_not, Bool.not_true, Bool.not_false, Bool.not_eq_true', Bool.not_eq_false', beq_iff_eq, bne_iff_ne, beq_eq_false_iff_ne, bne_eq_false_iff_eq, ne_eq, Bool.false_eq_true, reduceCtorEq] at h))
      | (refine hK _ ?_; clear hK K Q1)
      | (refine ⟨by first | omega | (simp only [List.length_map, List.length_append, List.length_cons, List.length_nil, List.length_replicate, List.length_drop, List.length_take]; omega), by unfold maxLen; first | omega | (simp only [List.length_map, List.length_append, List.length_cons, List.length_nil, List.length_replicate, List.length_drop, List.length_take]; omega), ?_⟩)
      | (refine hK _ _ rfl ?_; clear hK K; try refine go1 ?_)
      | (refine am_retP rfl ?_ rfl; first | refine go ?_ | rfl)
      | (refine am_retC [] rfl ?_ rfl rfl; first | refine go ?_ | rfl)
      | (refine wkq ?_)
      | (refine am_rs tabOk kOk rfl fun K Q1 hK => ?_; refine go1 ?_)
      | (refine am_reg tabOk kOk rfl fun K Q1 hK => ?_; refine go1 ?_)
      | (refine am_ds mixed tabOk kOk rfl rfl fun K hK => ?_; refine go1 ?_)
      | (refine am_dreg mixed tabOk kOk rfl rfl fun K hK => ?_; refine go1 ?_)
    all_goals first
      | (refine hKC _ [(1, 1)] [1, 3] 2 ?_ rfl (by first | rfl | (refine go ?_; rfl)); clear hKC hp; (simp only [askB, posB, mr1B, mr2B, mrkB, entB, srvB, inB, decide_eq_true_eq, decide_eq_false_iff_not, Bool.and_eq_true, Bool.or_eq_true, beq_iff_eq, bne_iff_ne] at * <;> first | omega | grind))
      | (clear hp; have hb : srvB fr to = false := (by rw [← Bool.not_eq_true]; simp only [askB, posB, mr1B, mr2B, mrkB, entB, srvB, inB, decide_eq_true_eq, decide_eq_false_iff_not, Bool.and_eq_true, Bool.or_eq_true, beq_iff_eq, bne_iff_ne] at * <;> first | omega | grind); simp only [msF, fb, F1, hb, if_true, Bool.false_eq_true, if_false]; rfl)
  refine am_scut (inB te 1 1073741824 = true) ⟨[(1, .c (.ptr 1 0)), (3, int kd)], [(1, .cells [ci kd, ci fr, ci to, ci te, ci li, ci lt, ci co, ci ok, ci hi, .t (.sl 7 (es.map Ent.tr))])], 2⟩ (fun F3 => ?_) fun KC hKC => ?_
  rotate_left
  · skip
    repeat' (fail_if_success (with_reducible apply amR_id)); first
      | (refine guardP_mk (fun h => ?_) (fun h => ?_) <;> (refine go1 ?_; try simp only [decide_eq_true_eq, decide_eq_false_iff_not, Bool.not_true, Bool.not_false, Bool.not_eq_true', Bool.not_eq_false', beq_iff_eq, bne_iff_ne, beq_eq_false_iff_ne, bne_eq_false_iff_eq, ne_eq, Bool.false_eq_true, reduceCtorEq] at h))
      | (refine hK _ ?_; clear hK K Q1)
      | (refine ⟨by first | omega | (simp only [List.length_map, List.length_append, List.length_cons, List.length_nil, List.length_replicate, List.length_drop, List.length_take]; omega), by unfold maxLen; first | omega | (simp only [List.length_map, List.length_append, List.length_cons, List.length_nil, List.length_replicate, List.length_drop, List.length_take]; omega), ?_⟩)
      | (refine hK _ _ rfl ?_; clear hK K; try refine go1 ?_)
      | (refine am_retP rfl ?_ rfl; first | refine go ?_ | rfl)
      | (refine am_retC [] rfl ?_ rfl rfl; first | refine go ?_ | rfl)
      | (refine wkq ?_)
      | (refine am_rs tabOk kOk rfl fun K Q1 hK => ?_; refine go1 ?_)
      | (refine am_reg tabOk kOk rfl fun K Q1 hK => ?_; refine go1 ?_)
      | (refine am_ds mixed tabOk kOk rfl rfl fun K hK => ?_; refine go1 ?_)
      | (refine am_dreg mixed tabOk kOk rfl rfl fun K hK => ?_; refine go1 ?_)
    all_goals first
      | (refine hKC _ [(1, 1)] [1, 3] 2 ?_ rfl (by first | rfl | (refine go ?_; rfl)); clear hKC hp; (simp only [askB, posB, mr1B, mr2B, mrkB, entB, srvB, inB, decide_eq_true_eq, decide_eq_false_iff_not, Bool.and_eq_true, Bool.or_eq_true, beq_iff_eq, bne_iff_ne] at * <;> first | omega | grind))
      | (clear hp; have hb : inB te 1 1073741824 = false := (by rw [← Bool.not_eq_true]; simp only [askB, posB, mr1B, mr2B, mrkB, entB, srvB, inB, decide_eq_true_eq, decide_eq_false_iff_not, Bool.and_eq_true, Bool.or_eq_true, beq_iff_eq, bne_iff_ne] at * <;> first | omega | grind); simp only [msF, fb, F1, F2, hb, if_true, Bool.false_eq_true, if_false]; rfl)
  refine am_scut True ⟨[(1, .c (.ptr 1 0)), (3, int kd), (4, bool (askB kd))], [(1, .cells [ci kd, ci fr, ci to, ci te, ci li, ci lt, ci co, ci ok, ci hi, .t (.sl 7 (es.map Ent.tr))])], 2⟩ (fun _ => ?_) fun KC hKC => ?_
  rotate_left
  · refine am_reg tabOk kOk rfl fun K Q1 hK => ?_
    refine go1 ?_
    repeat' (fail_if_success (with_reducible apply amR_id)); first
      | (refine guardP_mk (fun h => ?_) (fun h => ?_) <;> (refine go1 ?_; try simp only [decide_eq_true_eq, decide_eq_false_iff_not, Bool.not_true, Bool.not_false, Bool.not_eq_true', Bool.not_eq_false', beq_iff_eq, bne_iff_ne, beq_eq_false_iff_ne, bne_eq_false_iff_eq, ne_eq, Bool.false_eq_true, reduceCtorEq] at h))
      | (refine hK _ ?_; clear hK K Q1)
      | (refine ⟨by first | omega | (simp only [List.length_map, List.length_append, List.length_cons, List.length_nil, List.length_replicate, List.length_drop, List.length_take]; omega), by unfold maxLen; first | omega | (simp only [List.length_map, List.length_append, List.length_cons, List.length_nil, List.length_replicate, List.length_drop, List.length_take]; omega), ?_⟩)
      | (refine hK _ _ rfl ?_; clear hK K; try refine go1 ?_)
      | (refine am_retP rfl ?_ rfl; first | refine go ?_ | rfl)
      | (refine am_retC [] rfl ?_ rfl rfl; first | refine go ?_ | rfl)
      | (refine wkq ?_)
      | (refine am_rs tabOk kOk rfl fun K Q1 hK => ?_; refine go1 ?_)
      | (refine am_reg tabOk kOk rfl fun K Q1 hK => ?_; refine go1 ?_)
      | (refine am_ds mixed tabOk kOk rfl rfl fun K hK => ?_; refine go1 ?_)
      | (refine am_dreg mixed tabOk kOk rfl rfl fun K hK => ?_; refine go1 ?_)
    all_goals (refine hKC _ [(1, 1)] [1, 3, 4] 2 True.intro rfl ?_; clear hKC hp; refine go ?_; simp only [St.mk.injEq, List.cons.injEq, Prod.mk.injEq, TV.c.injEq, CV.t.injEq, Tree.v.injEq, Value.bool.injEq, true_and, and_true]; rw [Bool.eq_iff_iff]; simp only [askB, posB, mr1B, mr2B, mrkB, entB, srvB, inB, decide_eq_true_eq, decide_eq_false_iff_not, Bool.and_eq_true, Bool.or_eq_true, beq_iff_eq, bne_iff_ne, Bool.false_eq_true, false_iff, true_iff, Bool.true_eq_false] at * <;> first | omega | grind)
  refine am_scut (posB kd te li lt = true) ⟨[(1, .c (.ptr 1 0)), (3, int kd), (4, bool (askB kd))], [(1, .cells [ci kd, ci fr, ci to, ci te, ci li, ci lt, ci co, ci ok, ci hi, .t (.sl 7 (es.map Ent.tr))])], 2⟩ (fun F4 => ?_) fun KC hKC => ?_
  rotate_left
  · skip
    repeat' (fail_if_success (with_reducible apply amR_id)); first
      | (refine guardP_mk (fun h => ?_) (fun h => ?_) <;> (refine go1 ?_; try simp only [decide_eq_true_eq, decide_eq_false_iff_not, Bool.not_true, Bool.not_false, Bool.not_eq_true', Bool.not_eq_false', beq_iff_eq, bne_iff_ne, beq_eq_false_iff_ne, bne_eq_false_iff_eq, ne_eq, Bool.false_eq_true, reduceCtorEq] at h))
      | (refine hK _ ?_; clear hK K Q1)
      | (refine ⟨by first | omega | (simp only [List.length_map, List.length_append, List.length_cons, List.length_nil, List.length_replicate, List.length_drop, List.length_take]; omega), by unfold maxLen; first | omega | (simp only [List.length_map, List.length_append, List.length_cons, List.length_nil, List.length_replicate, List.length_drop, List.length_take]; omega), ?_⟩)
      | (refine hK _ _ rfl ?_; clear hK K; try refine go1 ?_)
      | (refine am_retP rfl ?_ rfl; first | refine go ?_ | rfl)
      | (refine am_retC [] rfl ?_ rfl rfl; first | refine go ?_ | rfl)
      | (refine wkq ?_)
      | (refine am_rs tabOk kOk rfl fun K Q1 hK => ?_; refine go1 ?_)
      | (refine am_reg tabOk kOk rfl fun K Q1 hK => ?_; refine go1 ?_)
      | (refine am_ds mixed tabOk kOk rfl rfl fun K hK => ?_; refine go1 ?_)
      | (refine am_dreg mixed tabOk kOk rfl rfl fun K hK => ?_; refine go1 ?_)
    all_goals first
      | (refine hKC _ [(1, 1)] [1, 3, 4] 2 ?_ rfl (by first | rfl | (refine go ?_; rfl)); clear hKC hp; (simp only [askB, posB, mr1B, mr2B, mrkB, entB, srvB, inB, decide_eq_true_eq, decide_eq_false_iff_not, Bool.and_eq_true, Bool.or_eq_true, beq_iff_eq, bne_iff_ne] at * <;> first | omega | grind))
      | (clear hp; have hb : posB kd te li lt = false := (by rw [← Bool.not_eq_true]; simp only [askB, posB, mr1B, mr2B, mrkB, entB, srvB, inB, decide_eq_true_eq, decide_eq_false_iff_not, Bool.and_eq_true, Bool.or_eq_true, beq_iff_eq, bne_iff_ne] at * <;> first | omega | grind); simp only [msF, fb, F1, F2, F3, hb, if_true, Bool.false_eq_true, if_false]; rfl)
  refine am_scut (mr1B kd co = true) ⟨[(1, .c (.ptr 1 0)), (3, int kd), (4, bool (askB kd))], [(1, .cells [ci kd, ci fr, ci to, ci te, ci li, ci lt, ci co, ci ok, ci hi, .t (.sl 7 (es.map Ent.tr))])], 2⟩ (fun F5 => ?_) fun KC hKC => ?_
  rotate_left
  · skip
    repeat' (fail_if_success (with_reducible apply amR_id)); first
      | (refine guardP_mk (fun h => ?_) (fun h => ?_) <;> (refine go1 ?_; try simp only [decide_eq_true_eq, decide_eq_false_iff_not, Bool.not_true, Bool.not_false, Bool.not_eq_true', Bool.not_eq_false', beq_iff_eq, bne_iff_ne, beq_eq_false_iff_ne, bne_eq_false_iff_eq, ne_eq, Bool.false_eq_true, reduceCtorEq] at h))
      | (refine hK _ ?_; clear hK K Q1)
      | (refine ⟨by first | omega | (simp only [List.length_map, List.length_append, List.length_cons, List.length_nil, List.length_replicate, List.length_drop, List.length_take]; omega), by unfold maxLen; first | omega | (simp only [List.length_map, List.length_append, List.length_cons, List.length_nil, List.length_replicate, List.length_drop, List.length_take]; omega), ?_⟩)
      | (refine hK _ _ rfl ?_; clear hK K; try refine go1 ?_)
      | (refine am_retP rfl ?_ rfl; first | refine go ?_ | rfl)
      | (refine am_retC [] rfl ?_ rfl rfl; first | refine go ?_ | rfl)
      | (refine wkq ?_)
      | (refine am_rs tabOk kOk rfl fun K Q1 hK => ?_; refine go1 ?_)
      | (refine am_reg tabOk kOk rfl fun K Q1 hK => ?_; refine go1 ?_)
      | (refine am_ds mixed tabOk kOk rfl rfl fun K hK => ?_; refine go1 ?_)
      | (refine am_dreg mixed tabOk kOk rfl rfl fun K hK => ?_; refine go1 ?_)
    all_goals first
      | (refine hKC _ [(1, 1)] [1, 3, 4] 2 ?_ rfl (by first | rfl | (refine go ?_; rfl)); clear hKC hp; (simp only [askB, posB, mr1B, mr2B, mrkB, entB, srvB, inB, decide_eq_true_eq, decide_eq_false_iff_not, Bool.and_eq_true, Bool.or_eq_true, beq_iff_eq, bne_iff_ne] at * <;> first | omega | grind))
      | (clear hp; have hb : mrkB kd co ok hi = false := (by rw [← Bool.not_eq_true]; simp only [askB, posB, mr1B, mr2B, mrkB, entB, srvB, inB, decide_eq_true_eq, decide_eq_false_iff_not, Bool.and_eq_true, Bool.or_eq_true, beq_iff_eq, bne_iff_ne] at * <;> first | omega | grind); simp only [msF, fb, F1, F2, F3, F4, hb, if_true, Bool.false_eq_true, if_false]; rfl)
  refine am_scut (mr2B kd co ok = true) ⟨[(1, .c (.ptr 1 0)), (3, int kd), (4, bool (askB kd))], [(1, .cells [ci kd, ci fr, ci to, ci te, ci li, ci lt, ci co, ci ok, ci hi, .t (.sl 7 (es.map Ent.tr))])], 2⟩ (fun F6 => ?_) fun KC hKC => ?_
  rotate_left
  · skip
    repeat' (fail_if_success (with_reducible apply amR_id)); first
      | (refine guardP_mk (fun h => ?_) (fun h => ?_) <;> (refine go1 ?_; try simp only [decide_eq_true_eq, decide_eq_false_iff_not, Bool.not_true, Bool.not_false, Bool.not_eq_true', Bool.not_eq_false', beq_iff_eq, bne_iff_ne, beq_eq_false_iff_ne, bne_eq_false_iff_eq, ne_eq, Bool.false_eq_true, reduceCtorEq] at h))
      | (refine hK _ ?_; clear hK K Q1)
      | (refine ⟨by first | omega | (simp only [List.length_map, List.length_append, List.length_cons, List.length_nil, List.length_replicate, List.length_drop, List.length_take]; omega), by unfold maxLen; first | omega | (simp only [List.length_map, List.length_append, List.length_cons, List.length_nil, List.length_replicate, List.length_drop, List.length_take]; omega), ?_⟩)
      | (refine hK _ _ rfl ?_; clear hK K; try refine go1 ?_)
      | (refine am_retP rfl ?_ rfl; first | refine go ?_ | rfl)
      | (refine am_retC [] rfl ?_ rfl rfl; first | refine go ?_ | rfl)
      | (refine wkq ?_)
      | (refine am_rs tabOk kOk rfl fun K Q1 hK => ?_; refine go1 ?_)
      | (refine am_reg tabOk kOk rfl fun K Q1 hK => ?_; refine go1 ?_)
      | (refine am_ds mixed tabOk kOk rfl rfl fun K hK => ?_; refine go1 ?_)
      | (refine am_dreg mixed tabOk kOk rfl rfl fun K hK => ?_; refine go1 ?_)
    all_goals first
      | (refine hKC _ [(1, 1)] [1, 3, 4] 2 ?_ rfl (by first | rfl | (refine go ?_; rfl)); clear hKC hp; (simp only [askB, posB, mr1B, mr2B, mrkB, entB, srvB, inB, decide_eq_true_eq, decide_eq_false_iff_not, Bool.and_eq_true, Bool.or_eq_true, beq_iff_eq, bne_iff_ne] at * <;> first | omega | grind))
      | (clear hp; have hb : mrkB kd co ok hi = false := (by rw [← Bool.not_eq_true]; simp only [askB, posB, mr1B, mr2B, mrkB, entB, srvB, inB, decide_eq_true_eq, decide_eq_false_iff_not, Bool.and_eq_true, Bool.or_eq_true, beq_iff_eq, bne_iff_ne] at * <;> first | omega | grind); simp only [msF, fb, F1, F2, F3, F4, hb, if_true, Bool.false_eq_true, if_false]; rfl)
  refine am_scut (mrkB kd co ok hi = true) ⟨[(1, .c (.ptr 1 0)), (3, int kd)], [(1, .cells [ci kd, ci fr, ci to, ci te, ci li, ci lt, ci co, ci ok, ci hi, .t (.sl 7 (es.map Ent.tr))])], 2⟩ (fun F7 => ?_) fun KC hKC => ?_
  rotate_left
  · skip
    repeat' (fail_if_success (with_reducible apply amR_id)); first
      | (refine guardP_mk (fun h => ?_) (fun h => ?_) <;> (refine go1 ?_; try simp only [decide_eq_true_eq, decide_eq_false_iff_not, Bool.not_true, Bool.not_false, Bool.not_eq_true', Bool.not_eq_false', beq_iff_eq, bne_iff_ne, beq_eq_false_iff_ne, bne_eq_false_iff_eq, ne_eq, Bool.false_eq_true, reduceCtorEq] at h))
      | (refine hK _ ?_; clear hK K Q1)
      | (refine ⟨by first | omega | (simp only [List.length_map, List.length_append, List.length_cons, List.length_nil, List.length_replicate, List.length_drop, List.length_take]; omega), by unfold maxLen; first | omega | (simp only [List.length_map, List.length_append, List.length_cons, List.length_nil, List.length_replicate, List.length_drop, List.length_take]; omega), ?_⟩)
      | (refine hK _ _ rfl ?_; clear hK K; try refine go1 ?_)
      | (refine am_retP rfl ?_ rfl; first | refine go ?_ | rfl)
      | (refine am_retC [] rfl ?_ rfl rfl; first | refine go ?_ | rfl)
      | (refine wkq ?_)
      | (refine am_rs tabOk kOk rfl fun K Q1 hK => ?_; refine go1 ?_)
      | (refine am_reg tabOk kOk rfl fun K Q1 hK => ?_; refine go1 ?_)
      | (refine am_ds mixed tabOk kOk rfl rfl fun K hK => ?_; refine go1 ?_)
      | (refine am_dreg mixed tabOk kOk rfl rfl fun K hK => ?_; refine go1 ?_)
    all_goals first
      | (refine hKC _ [(1, 1)] [1, 3] 2 ?_ rfl (by first | rfl | (refine go ?_; rfl)); clear hKC hp; (simp only [askB, posB, mr1B, mr2B, mrkB, entB, srvB, inB, decide_eq_true_eq, decide_eq_false_iff_not, Bool.and_eq_true, Bool.or_eq_true, beq_iff_eq, bne_iff_ne] at * <;> first | omega | grind))
      | (clear hp; have hb : mrkB kd co ok hi = false := (by rw [← Bool.not_eq_true]; simp only [askB, posB, mr1B, mr2B, mrkB, entB, srvB, inB, decide_eq_true_eq, decide_eq_false_iff_not, Bool.and_eq_true, Bool.or_eq_true, beq_iff_eq, bne_iff_ne] at * <;> first | omega | grind); simp only [msF, fb, F1, F2, F3, F4, hb, if_true, Bool.false_eq_true, if_false]; rfl)
  by_cases h5 : kd = 5
  · refine am_scut (kd = 5) ⟨[(1, .c (.ptr 1 0)), (3, int kd)], [(1, .cells [ci kd, ci fr, ci to, ci te, ci li, ci lt, ci co, ci ok, ci hi, .t (.sl 7 (es.map Ent.tr))])], 2⟩ (fun _ => ?_) fun KC hKC => ?_
    rotate_left
    · skip
      repeat' (fail_if_success (with_reducible apply amR_id)); first
        | (refine guardP_mk (fun h => ?_) (fun h => ?_) <;> (refine go1 ?_; try simp only [decide_eq_true_eq, decide_eq_false_iff_not, Bool.not_true, Bool.not_false, Bool.not_eq_true', Bool.not_eq_false', beq_iff_eq, bne_iff_ne, beq_eq_false_iff_ne, bne_eq_false_iff_eq, ne_eq, Bool.false_eq_true, reduceCtorEq] at h))
        | (refine hK _ ?_; clear hK K Q1)
        | (refine ⟨by first | omega | (simp only [List.length_map, List.length_append, List.length_cons, List.length_nil, List.length_replicate, List.length_drop, List.length_take]; omega), by unfold maxLen; first | omega | (simp only [List.length_map, List.length_append, List.length_cons, List.length_nil, List.length_replicate, List.length_drop, List.length_take]; omega), ?_⟩)
        | (refine hK _ _ rfl ?_; clear hK K; try refine go1 ?_)
        | (refine am_retP rfl ?_ rfl; first | refine go ?_ | rfl)
        | (refine am_retC [] rfl ?_ rfl rfl; first | refine go ?_ | rfl)
        | (refine wkq ?_)
        | (refine am_rs tabOk kOk rfl fun K Q1 hK => ?_; refine go1 ?_)
        | (refine am_reg tabOk kOk rfl fun K Q1 hK => ?_; refine go1 ?_)
        | (refine am_ds mixed tabOk kOk rfl rfl fun K hK => ?_; refine go1 ?_)
        | (refine am_dreg mixed tabOk kOk rfl rfl fun K hK => ?_; refine go1 ?_)
      all_goals first
        | (refine hKC _ [(1, 1)] [1, 3] 2 h5 rfl ?_; clear hKC hp; first | rfl | (refine go ?_; rfl))
        | (exfalso; simp only [bne_iff_ne, beq_iff_eq, ne_eq] at *; omega)
    skip
    repeat' (fail_if_success (with_reducible apply amR_id)); first
      | (refine guardP_mk (fun h => ?_) (fun h => ?_) <;> (refine go1 ?_; try simp only [decide_eq_true_eq, decide_eq_false_iff_not, Bool.not_true, Bool.not_false, Bool.not_eq_true', Bool.not_eq_false', beq_iff_eq, bne_iff_ne, beq_eq_false_iff_ne, bne_eq_false_iff_eq, ne_eq, Bool.false_eq_true, reduceCtorEq] at h))
      | (refine hK _ ?_; clear hK K Q1)
      | (refine ⟨by first | omega | (simp only [List.length_map, List.length_append, List.length_cons, List.length_nil, List.length_replicate, List.length_drop, List.length_take]; omega), by unfold maxLen; first | omega | (simp only [List.length_map, List.length_append, List.length_cons, List.length_nil, List.length_replicate, List.length_drop, List.length_take]; omega), ?_⟩)
      | (refine hK _ _ rfl ?_; clear hK K; try refine go1 ?_)
      | (refine am_retP rfl ?_ rfl; first | refine go ?_ | rfl)
      | (refine am_retC [] rfl ?_ rfl rfl; first | refine go ?_ | rfl)
      | (refine wkq ?_)
      | (refine am_rs tabOk kOk rfl fun K Q1 hK => ?_; refine go1 ?_)
      | (refine am_reg tabOk kOk rfl fun K Q1 hK => ?_; refine go1 ?_)
      | (refine am_ds mixed tabOk kOk rfl rfl fun K hK => ?_; refine go1 ?_)
      | (refine am_dreg mixed tabOk kOk rfl rfl fun K hK => ?_; refine go1 ?_)
    all_goals (clear hp; first | (have hb : entB kd li lt te es = true := (by simp only [askB, posB, mr1B, mr2B, mrkB, entB, srvB, inB, decide_eq_true_eq, decide_eq_false_iff_not, Bool.and_eq_true, Bool.or_eq_true, beq_iff_eq, bne_iff_ne] at * <;> first | omega | grind); simp only [msF, fb, F1, F2, F3, F4, F7, hb, if_true, Bool.false_eq_true, if_false]; done) | (have hb : entB kd li lt te es = false := (by rw [← Bool.not_eq_true]; simp only [askB, posB, mr1B, mr2B, mrkB, entB, srvB, inB, decide_eq_true_eq, decide_eq_false_iff_not, Bool.and_eq_true, Bool.or_eq_true, beq_iff_eq, bne_iff_ne] at * <;> first | omega | grind); simp only [msF, fb, F1, F2, F3, F4, F7, hb, if_true, Bool.false_eq_true, if_false]; rfl))
  · skip
    repeat' (fail_if_success (with_reducible apply amR_id)); first
      | (refine guardP_mk (fun h => ?_) (fun h => ?_) <;> (refine go1 ?_; try simp only [decide_eq_true_eq, decide_eq_false_iff_not, Bool.not_true, Bool.not_false, Bool.not_eq_true', Bool.not_eq_false', beq_iff_eq, bne_iff_ne, beq_eq_false_iff_ne, bne_eq_false_iff_eq, ne_eq, Bool.false_eq_true, reduceCtorEq] at h))
      | (refine hK _ ?_; clear hK K Q1)
      | (refine ⟨by first | omega | (simp only [List.length_map, List.length_append, List.length_cons, List.length_nil, List.length_replicate, List.length_drop, List.length_take]; omega), by unfold maxLen; first | omega | (simp only [List.length_map, List.length_append, List.length_cons, List.length_nil, List.length_replicate, List.length_drop, List.length_take]; omega), ?_⟩)
      | (refine hK _ _ rfl ?_; clear hK K; try refine go1 ?_)
      | (refine am_retP rfl ?_ rfl; first | refine go ?_ | rfl)
      | (refine am_retC [] rfl ?_ rfl rfl; first | refine go ?_ | rfl)
      | (refine wkq ?_)
      | (refine am_rs tabOk kOk rfl fun K Q1 hK => ?_; refine go1 ?_)
      | (refine am_reg tabOk kOk rfl fun K Q1 hK => ?_; refine go1 ?_)
      | (refine am_ds mixed tabOk kOk rfl rfl fun K hK => ?_; refine go1 ?_)
      | (refine am_dreg mixed tabOk kOk rfl rfl fun K hK => ?_; refine go1 ?_)
    all_goals (clear hp; first | (exfalso; simp only [bne_iff_ne, beq_iff_eq, ne_eq] at *; omega) | (have hb : entB kd li lt te es = true := (by simp only [askB, posB, mr1B, mr2B, mrkB, entB, srvB, inB, decide_eq_true_eq, decide_eq_false_iff_not, Bool.and_eq_true, Bool.or_eq_true, beq_iff_eq, bne_iff_ne] at * <;> first | omega | grind); simp only [msF, fb, F1, F2, F3, F4, F7, hb, if_true, Bool.false_eq_true, if_false]; done) | (have hb : entB kd li lt te es = false := (by rw [← Bool.not_eq_true]; simp only [askB, posB, mr1B, mr2B, mrkB, entB, srvB, inB, decide_eq_true_eq, decide_eq_false_iff_not, Bool.and_eq_true, Bool.or_eq_true, beq_iff_eq, bne_iff_ne] at * <;> first | omega | grind); simp only [msF, fb, F1, F2, F3, F4, F7, hb, if_true, Bool.false_eq_true, if_false]; rfl))
end Go.Proofs.YtaolgdpkcbfocaaDoorA
