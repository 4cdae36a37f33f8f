/- Records that lead from one state to another: the answers, and the laws' own functions for them. -/
import Derived.Test.YtaolgdpkcbfocaaFPlan3
namespace Go.Proofs.YtaolgdpkcbfocaaA
open Go.Proofs
set_option autoImplicit false
set_option linter.unusedVariables false
set_option linter.unusedSimpArgs false
set_option maxRecDepth 4000
def kn42_0_2 (t : Int) (v : Int) (n : Nat) (t2 : Int) (v2 : Int) (n2 : Nat) (l : List Ent) (l2 : List Ent) : CB := if n = l.length ∧ n2 = l2.length ∧ l.length ≤ 1048576 ∧ l2.length ≤ 1048576 then some (.c (.own 3 0 (recL ⟨t, v, l⟩ ⟨t2, v2, l2⟩).length), [(1, .arr 87 7 (l.map Ent.tr)), (2, .arr 87 7 (l2.map Ent.tr)), (3, .arr 89 11 ((recL ⟨t, v, l⟩ ⟨t2, v2, l2⟩).map Rec.tr))], 4) else none
def kn42_0_1 (t : Int) (v : Int) (n : Nat) (t2 : Int) (v2 : Int) (n2 : Nat) (r1 : List (List Tree)) (l : List Ent) : CB := (unEnts r1).bind (kn42_0_2 t v n t2 v2 n2 l)
def kn42_0_0 (t : Int) (v : Int) (n : Nat) (t2 : Int) (v2 : Int) (n2 : Nat) (r0 : List (List Tree)) (r1 : List (List Tree)) : CB := (unEnts r0).bind (kn42_0_1 t v n t2 v2 n2 r1)
def kn42_0 : List TV → List (Nat × AObj) → CB
  | [.agg [.t (.v (.int .i64 t)), .t (.v (.int .i64 v)), .own 1 0 n], .agg [.t (.v (.int .i64 t2)), .t (.v (.int .i64 v2)), .own 2 0 n2]], [(1, .arr 87 7 r0), (2, .arr 87 7 r1)] => kn42_0_0 t v n t2 v2 n2 r0 r1
  | _, _ => none
def kn42_1_1 (n : Nat) (k : Int) (l : List Rec) : CB := if n = l.length ∧ 0 ≤ k ∧ k + 11 * (l.length : Nat) ≤ 1099511627776 then some (int (k + 11 * (l.length : Nat)), [(1, .arr 89 11 ((mkRs l.length k).map Rec.tr))], 2) else none
def kn42_1_0 (n : Nat) (k : Int) (r0 : List (List Tree)) : CB := (unRecs r0).bind (kn42_1_1 n k)
def kn42_1 : List TV → List (Nat × AObj) → CB
  | [.c (.own 1 0 n), .c (.t (.v (.int .i64 k)))], [(1, .arr 89 11 r0)] => kn42_1_0 n k r0
  | _, _ => none
def kn42_call (f : FuncId) (args : List TV) (o : List (Nat × AObj)) : CB := if f = 45 then orO (kn42_0 args o) (kn41.callB f args o) else if f = 49 then orO (kn42_1 args o) (kn41.callB f args o) else kn41.callB f args o
def kn42 : Kn := { call := kn41.call, eqs := eqTys, callB := kn42_call }
attribute [go_sem] kn42_0_0 kn42_0_1 kn42_0_2 kn42_0 kn42_1_0 kn42_1_1 kn42_1 kn42_call kn42
theorem kn42_ok : ∀ f args o res o1 n1, kn42_call f args o = some (res, o1, n1) → TC Try.prog f args o (o.length + 1) res o1 n1 := by
  intro f args o res o1 n1 h
  unfold kn42_call at h
  split at h
  · rename_i e; subst e
    have hh := orO_elim h
    clear h
    rcases hh with h | h
    rotate_left
    · exact k41.callB _ _ _ _ _ _ h
    unfold kn42_0 at h
    split at h
    · rename_i t v n t2 v2 n2 r0 r1; unfold kn42_0_0 at h
      have hb0 := Option.bind_eq_some_iff.1 h
      clear h
      obtain ⟨l, e0, h⟩ := hb0
      unfold kn42_0_1 at h
      have hb1 := Option.bind_eq_some_iff.1 h
      clear h
      obtain ⟨l2, e1, h⟩ := hb1
      unfold kn42_0_2 at h
      split at h
      · rename_i hc; cases h; rw [unEnts_ok e0, unEnts_ok e1]; obtain ⟨rfl, rfl, h1, h2⟩ := hc; exact planI_tc ⟨t, v, l⟩ ⟨t2, v2, l2⟩ h1 h2
      · cases h
    · cases h
  split at h
  · rename_i e; subst e
    have hh := orO_elim h
    clear h
    rcases hh with h | h
    rotate_left
    · exact k41.callB _ _ _ _ _ _ h
    unfold kn42_1 at h
    split at h
    · rename_i n k r0; unfold kn42_1_0 at h
      have hb0 := Option.bind_eq_some_iff.1 h
      clear h
      obtain ⟨l, e0, h⟩ := hb0
      unfold kn42_1_1 at h
      split at h
      · rename_i hc; cases h; rw [unRecs_ok e0]; obtain ⟨rfl, h1, h2⟩ := hc; exact markRs_tc l k h1 h2
      · cases h
    · cases h
  · exact k41.callB f args o res o1 n1 h
theorem k42 : KnOk Try.prog kn42 := ⟨k41.call, eqTysOk, kn42_ok⟩
set_option maxHeartbeats 16000000 in
theorem planS_no (s u : Stb) (hl : s.log.length ≤ 1048576) (hl2 : u.log.length ≤ 1048576) (h : planC s u ≠ 0) : TC Try.prog 14 [.agg [ci s.term, ci s.vote, .own 1 0 s.log.length], .agg [ci u.term, ci u.vote, .own 2 0 u.log.length]] [(1, .arr 87 7 (s.log.map Ent.tr)), (2, .arr 87 7 (u.log.map Ent.tr))] 3 (.agg [ci (planC s u), .t (.v (.slice none 0 0))]) [(1, .arr 87 7 (s.log.map Ent.tr)), (2, .arr 87 7 (u.log.map Ent.tr))] 3 := by
  obtain ⟨t, v, l⟩ := s
  obtain ⟨t', v', l'⟩ := u
  simp only at hl hl2
  by_cases h1 : stF ⟨t, v, l⟩ = false
  · have e : planC ⟨t, v, l⟩ ⟨t', v', l'⟩ = 1 := if_pos h1
    rw [e]
    refine tc_cell tabOk Try.func14 rfl 102 rfl (Nat.le_of_ble_eq_true rfl) (by decide) [(4, some 51)] rfl dom2 ?_
    intro w0 E0
    have kOk := k42
    have hp := (show (l.length ≤ 1048576) = True ∧ (l'.length ≤ 1048576) = True ∧ stF ⟨t, v, l⟩ = false from ⟨eq_true hl, eq_true hl2, h1⟩)
    repeat' (fail_if_success (with_reducible apply amR_id)); first
      | (refine guardP_mk (fun h => ?_) (fun h => ?_) <;> (refine go1 ?_; try simp only [decide_eq_true_eq, decide_eq_false_iff_not, Bool.not_true, Bool.not_false, Bool.not_eq_true', Bool.not_eq_false', beq_iff_eq, bne_iff_ne, beq_eq_false_iff_ne, bne_eq_false_iff_eq, ne_eq, Bool.false_eq_true, reduceCtorEq] at h))
      | (refine hK _ ?_; clear hK K Q1)
      | (refine ⟨by first | omega | (simp only [List.length_map, List.length_append, List.length_cons, List.length_nil, List.length_replicate, List.length_drop, List.length_take]; omega), by unfold maxLen; first | omega | (simp only [List.length_map, List.length_append, List.length_cons, List.length_nil, List.length_replicate, List.length_drop, List.length_take]; omega), ?_⟩)
      | (refine hK _ _ rfl ?_; clear hK K; try refine go1 ?_)
      | (refine am_retC [(1, 1), (2, 2)] rfl ?_ rfl rfl; first | refine go ?_ | rfl)
      | (refine am_retB [(1, 1), (2, 2)] rfl ?_ ?_ rfl <;> first | refine go ?_ | rfl)
      | (refine wkq ?_)
      | (refine am_rs tabOk kOk rfl fun K Q1 hK => ?_; refine go1 ?_)
      | (refine am_ds mixed tabOk kOk rfl rfl fun K hK => ?_; refine go1 ?_)
      | (refine am_dreg mixed tabOk kOk rfl rfl fun K hK => ?_; refine go1 ?_)
    all_goals first | rfl | (exfalso; clear hp; simp only [fitB, fitR, decide_eq_false_iff_not, decide_eq_true_eq, noEnt] at *; omega)
  by_cases h2 : stF ⟨t', v', l'⟩ = false
  · have e : planC ⟨t, v, l⟩ ⟨t', v', l'⟩ = 2 := (if_neg h1).trans (if_pos h2)
    rw [e]
    refine tc_cell tabOk Try.func14 rfl 102 rfl (Nat.le_of_ble_eq_true rfl) (by decide) [(4, some 51)] rfl dom2 ?_
    intro w0 E0
    have kOk := k42
    have hp := (show (l.length ≤ 1048576) = True ∧ (l'.length ≤ 1048576) = True ∧ stF ⟨t, v, l⟩ = true ∧ stF ⟨t', v', l'⟩ = false from ⟨eq_true hl, eq_true hl2, by simpa using h1, h2⟩)
    repeat' (fail_if_success (with_reducible apply amR_id)); first
      | (refine guardP_mk (fun h => ?_) (fun h => ?_) <;> (refine go1 ?_; try simp only [decide_eq_true_eq, decide_eq_false_iff_not, Bool.not_true, Bool.not_false, Bool.not_eq_true', Bool.not_eq_false', beq_iff_eq, bne_iff_ne, beq_eq_false_iff_ne, bne_eq_false_iff_eq, ne_eq, Bool.false_eq_true, reduceCtorEq] at h))
      | (refine hK _ ?_; clear hK K Q1)
      | (refine ⟨by first | omega | (simp only [List.length_map, List.length_append, List.length_cons, List.length_nil, List.length_replicate, List.length_drop, List.length_take]; omega), by unfold maxLen; first | omega | (simp only [List.length_map, List.length_append, List.length_cons, List.length_nil, List.length_replicate, List.length_drop, List.length_take]; omega), ?_⟩)
      | (refine hK _ _ rfl ?_; clear hK K; try refine go1 ?_)
      | (refine am_retC [(1, 1), (2, 2)] rfl ?_ rfl rfl; first | refine go ?_ | rfl)
      | (refine am_retB [(1, 1), (2, 2)] rfl ?_ ?_ rfl <;> first | refine go ?_ | rfl)
      | (refine wkq ?_)
      | (refine am_rs tabOk kOk rfl fun K Q1 hK => ?_; refine go1 ?_)
      | (refine am_ds mixed tabOk kOk rfl rfl fun K hK => ?_; refine go1 ?_)
      | (refine am_dreg mixed tabOk kOk rfl rfl fun K hK => ?_; refine go1 ?_)
    all_goals first | rfl | (exfalso; clear hp; simp only [fitB, fitR, decide_eq_false_iff_not, decide_eq_true_eq, noEnt] at *; omega)
  by_cases h3 : fitB ⟨t, v, l⟩ ⟨t', v', l'⟩ = false
  · have e : planC ⟨t, v, l⟩ ⟨t', v', l'⟩ = 3 := (if_neg h1).trans ((if_neg h2).trans (if_pos h3))
    rw [e]
    refine tc_cell tabOk Try.func14 rfl 102 rfl (Nat.le_of_ble_eq_true rfl) (by decide) [(4, some 51)] rfl dom2 ?_
    intro w0 E0
    have kOk := k42
    have hp := (show (l.length ≤ 1048576) = True ∧ (l'.length ≤ 1048576) = True ∧ stF ⟨t, v, l⟩ = true ∧ stF ⟨t', v', l'⟩ = true ∧ fitR ⟨t, v, l⟩ ⟨1, t', v', 0, ⟨0, ⟨0, 0, 0, ⟨#[]⟩, ⟨#[]⟩, ⟨#[]⟩⟩⟩⟩ = false from ⟨eq_true hl, eq_true hl2, by simpa using h1, by simpa using h2, h3⟩)
    repeat' (fail_if_success (with_reducible apply amR_id)); first
      | (refine guardP_mk (fun h => ?_) (fun h => ?_) <;> (refine go1 ?_; try simp only [decide_eq_true_eq, decide_eq_false_iff_not, Bool.not_true, Bool.not_false, Bool.not_eq_true', Bool.not_eq_false', beq_iff_eq, bne_iff_ne, beq_eq_false_iff_ne, bne_eq_false_iff_eq, ne_eq, Bool.false_eq_true, reduceCtorEq] at h))
      | (refine hK _ ?_; clear hK K Q1)
      | (refine ⟨by first | omega | (simp only [List.length_map, List.length_append, List.length_cons, List.length_nil, List.length_replicate, List.length_drop, List.length_take]; omega), by unfold maxLen; first | omega | (simp only [List.length_map, List.length_append, List.length_cons, List.length_nil, List.length_replicate, List.length_drop, List.length_take]; omega), ?_⟩)
      | (refine hK _ _ rfl ?_; clear hK K; try refine go1 ?_)
      | (refine am_retC [(1, 1), (2, 2)] rfl ?_ rfl rfl; first | refine go ?_ | rfl)
      | (refine am_retB [(1, 1), (2, 2)] rfl ?_ ?_ rfl <;> first | refine go ?_ | rfl)
      | (refine wkq ?_)
      | (refine am_rs tabOk kOk rfl fun K Q1 hK => ?_; refine go1 ?_)
      | (refine am_ds mixed tabOk kOk rfl rfl fun K hK => ?_; refine go1 ?_)
      | (refine am_dreg mixed tabOk kOk rfl rfl fun K hK => ?_; refine go1 ?_)
    all_goals first | rfl | (exfalso; clear hp; simp only [fitB, fitR, decide_eq_false_iff_not, decide_eq_true_eq, noEnt] at *; omega)
  · exact absurd ((if_neg h1).trans ((if_neg h2).trans (if_neg h3))) h

theorem planC0 {s u : Stb} (h : planC s u = 0) : stF s = true ∧ stF u = true ∧ fitB s u = true := by
  unfold planC at h
  (repeat' split at h) <;> first | (exfalso; omega) | simp_all
set_option maxHeartbeats 16000000 in
theorem planI_no (s u : Stb) (hl : s.log.length ≤ 1048576) (hl2 : u.log.length ≤ 1048576) (h : planC s u ≠ 0) : TC Try.prog 16 [.agg [ci s.term, ci s.vote, .own 1 0 s.log.length], .agg [ci u.term, ci u.vote, .own 2 0 u.log.length]] [(1, .arr 87 7 (s.log.map Ent.tr)), (2, .arr 87 7 (u.log.map Ent.tr))] 3 (.agg [ci (planC s u), .t (.v (.slice none 0 0))]) [(1, .arr 87 7 (s.log.map Ent.tr)), (2, .arr 87 7 (u.log.map Ent.tr))] 3 := by
  obtain ⟨t, v, l⟩ := s
  obtain ⟨t', v', l'⟩ := u
  simp only at hl hl2
  by_cases h1 : stF ⟨t, v, l⟩ = false
  · have e : planC ⟨t, v, l⟩ ⟨t', v', l'⟩ = 1 := if_pos h1
    rw [e]
    refine tc_cell tabOk Try.func16 rfl 42 rfl (Nat.le_of_ble_eq_true rfl) (by decide) [(4, some 51)] rfl dom2 ?_
    intro w0 E0
    have kOk := k42
    have hp := (show (l.length ≤ 1048576) = True ∧ (l'.length ≤ 1048576) = True ∧ stF ⟨t, v, l⟩ = false from ⟨eq_true hl, eq_true hl2, h1⟩)
    repeat' (fail_if_success (with_reducible apply amR_id)); first
      | (refine guardP_mk (fun h => ?_) (fun h => ?_) <;> (refine go1 ?_; try simp only [decide_eq_true_eq, decide_eq_false_iff_not, Bool.not_true, Bool.not_false, Bool.not_eq_true', Bool.not_eq_false', beq_iff_eq, bne_iff_ne, beq_eq_false_iff_ne, bne_eq_false_iff_eq, ne_eq, Bool.false_eq_true, reduceCtorEq] at h))
      | (refine hK _ ?_; clear hK K Q1)
      | (refine ⟨by first | omega | (simp only [List.length_map, List.length_append, List.length_cons, List.length_nil, List.length_replicate, List.length_drop, List.length_take]; omega), by unfold maxLen; first | omega | (simp only [List.length_map, List.length_append, List.length_cons, List.length_nil, List.length_replicate, List.length_drop, List.length_take]; omega), ?_⟩)
      | (refine hK _ _ rfl ?_; clear hK K; try refine go1 ?_)
      | (refine am_retC [(1, 1), (2, 2)] rfl ?_ rfl rfl; first | refine go ?_ | rfl)
      | (refine am_retB [(1, 1), (2, 2)] rfl ?_ ?_ rfl <;> first | refine go ?_ | rfl)
      | (refine wkq ?_)
      | (refine am_rs tabOk kOk rfl fun K Q1 hK => ?_; refine go1 ?_)
      | (refine am_ds mixed tabOk kOk rfl rfl fun K hK => ?_; refine go1 ?_)
      | (refine am_dreg mixed tabOk kOk rfl rfl fun K hK => ?_; refine go1 ?_)
    all_goals first | rfl | (exfalso; clear hp; simp only [fitB, fitR, decide_eq_false_iff_not, decide_eq_true_eq, noEnt] at *; omega)
  by_cases h2 : stF ⟨t', v', l'⟩ = false
  · have e : planC ⟨t, v, l⟩ ⟨t', v', l'⟩ = 2 := (if_neg h1).trans (if_pos h2)
    rw [e]
    refine tc_cell tabOk Try.func16 rfl 42 rfl (Nat.le_of_ble_eq_true rfl) (by decide) [(4, some 51)] rfl dom2 ?_
    intro w0 E0
    have kOk := k42
    have hp := (show (l.length ≤ 1048576) = True ∧ (l'.length ≤ 1048576) = True ∧ stF ⟨t, v, l⟩ = true ∧ stF ⟨t', v', l'⟩ = false from ⟨eq_true hl, eq_true hl2, by simpa using h1, h2⟩)
    repeat' (fail_if_success (with_reducible apply amR_id)); first
      | (refine guardP_mk (fun h => ?_) (fun h => ?_) <;> (refine go1 ?_; try simp only [decide_eq_true_eq, decide_eq_false_iff_not, Bool.not_true, Bool.not_false, Bool.not_eq_true', Bool.not_eq_false', beq_iff_eq, bne_iff_ne, beq_eq_false_iff_ne, bne_eq_false_iff_eq, ne_eq, Bool.false_eq_true, reduceCtorEq] at h))
      | (refine hK _ ?_; clear hK K Q1)
      | (refine ⟨by first | omega | (simp only [List.length_map, List.length_append, List.length_cons, List.length_nil, List.length_replicate, List.length_drop, List.length_take]; omega), by unfold maxLen; first | omega | (simp only [List.length_map, List.length_append, List.length_cons, List.length_nil, List.length_replicate, List.length_drop, List.length_take]; omega), ?_⟩)
      | (refine hK _ _ rfl ?_; clear hK K; try refine go1 ?_)
      | (refine am_retC [(1, 1), (2, 2)] rfl ?_ rfl rfl; first | refine go ?_ | rfl)
      | (refine am_retB [(1, 1), (2, 2)] rfl ?_ ?_ rfl <;> first | refine go ?_ | rfl)
      | (refine wkq ?_)
      | (refine am_rs tabOk kOk rfl fun K Q1 hK => ?_; refine go1 ?_)
      | (refine am_ds mixed tabOk kOk rfl rfl fun K hK => ?_; refine go1 ?_)
      | (refine am_dreg mixed tabOk kOk rfl rfl fun K hK => ?_; refine go1 ?_)
    all_goals first | rfl | (exfalso; clear hp; simp only [fitB, fitR, decide_eq_false_iff_not, decide_eq_true_eq, noEnt] at *; omega)
  by_cases h3 : fitB ⟨t, v, l⟩ ⟨t', v', l'⟩ = false
  · have e : planC ⟨t, v, l⟩ ⟨t', v', l'⟩ = 3 := (if_neg h1).trans ((if_neg h2).trans (if_pos h3))
    rw [e]
    refine tc_cell tabOk Try.func16 rfl 42 rfl (Nat.le_of_ble_eq_true rfl) (by decide) [(4, some 51)] rfl dom2 ?_
    intro w0 E0
    have kOk := k42
    have hp := (show (l.length ≤ 1048576) = True ∧ (l'.length ≤ 1048576) = True ∧ stF ⟨t, v, l⟩ = true ∧ stF ⟨t', v', l'⟩ = true from ⟨eq_true hl, eq_true hl2, by simpa using h1, by simpa using h2⟩)
    repeat' (fail_if_success (with_reducible apply amR_id)); first
      | (refine guardP_mk (fun h => ?_) (fun h => ?_) <;> (refine go1 ?_; try simp only [decide_eq_true_eq, decide_eq_false_iff_not, Bool.not_true, Bool.not_false, Bool.not_eq_true', Bool.not_eq_false', beq_iff_eq, bne_iff_ne, beq_eq_false_iff_ne, bne_eq_false_iff_eq, ne_eq, Bool.false_eq_true, reduceCtorEq] at h))
      | (refine hK _ ?_; clear hK K Q1)
      | (refine ⟨by first | omega | (simp only [List.length_map, List.length_append, List.length_cons, List.length_nil, List.length_replicate, List.length_drop, List.length_take]; omega), by unfold maxLen; first | omega | (simp only [List.length_map, List.length_append, List.length_cons, List.length_nil, List.length_replicate, List.length_drop, List.length_take]; omega), ?_⟩)
      | (refine hK _ _ rfl ?_; clear hK K; try refine go1 ?_)
      | (refine am_retC [(1, 1), (2, 2)] rfl ?_ rfl rfl; first | refine go ?_ | rfl)
      | (refine am_retB [(1, 1), (2, 2)] rfl ?_ ?_ rfl <;> first | refine go ?_ | rfl)
      | (refine wkq ?_)
      | (refine am_rs tabOk kOk rfl fun K Q1 hK => ?_; refine go1 ?_)
      | (refine am_ds mixed tabOk kOk rfl rfl fun K hK => ?_; refine go1 ?_)
      | (refine am_dreg mixed tabOk kOk rfl rfl fun K hK => ?_; refine go1 ?_)
    all_goals first | rfl | (exfalso; clear hp; simp only [fitB, fitR, decide_eq_false_iff_not, decide_eq_true_eq, noEnt] at *; omega)
  · exact absurd ((if_neg h1).trans ((if_neg h2).trans (if_neg h3))) h

set_option maxHeartbeats 16000000 in
theorem planI_ok (s u : Stb) (hl : s.log.length ≤ 1048576) (hl2 : u.log.length ≤ 1048576) (h : planC s u = 0) : TC Try.prog 16 [.agg [ci s.term, ci s.vote, .own 1 0 s.log.length], .agg [ci u.term, ci u.vote, .own 2 0 u.log.length]] [(1, .arr 87 7 (s.log.map Ent.tr)), (2, .arr 87 7 (u.log.map Ent.tr))] 3 (.agg [ci 0, .own 3 0 (recL s u).length]) [(1, .arr 87 7 (s.log.map Ent.tr)), (2, .arr 87 7 (u.log.map Ent.tr)), (3, .arr 89 11 ((recL s u).map Rec.tr))] 4 := by
  obtain ⟨t, v, l⟩ := s
  obtain ⟨t', v', l'⟩ := u
  simp only at hl hl2
  obtain ⟨h1, h2, h3⟩ := planC0 h
  refine tc_cell tabOk Try.func16 rfl 42 rfl (Nat.le_of_ble_eq_true rfl) (by decide) [(4, some 51)] rfl dom2 ?_
  intro w0 E0
  have kOk := k42
  have hp := (show (l.length ≤ 1048576) = True ∧ (l'.length ≤ 1048576) = True ∧ stF ⟨t, v, l⟩ = true ∧ stF ⟨t', v', l'⟩ = true from ⟨eq_true hl, eq_true hl2, h1, h2⟩)
  repeat' (fail_if_success (with_reducible apply amR_id)); first
    | (refine guardP_mk (fun h => ?_) (fun h => ?_) <;> (refine go1 ?_; try simp only [decide_eq_true_eq, decide_eq_false_iff_not, Bool.not_true, Bool.not_false, Bool.not_eq_true', Bool.not_eq_false', beq_iff_eq, bne_iff_ne, beq_eq_false_iff_ne, bne_eq_false_iff_eq, ne_eq, Bool.false_eq_true, reduceCtorEq] at h))
    | (refine hK _ ?_; clear hK K Q1)
    | (refine ⟨by first | omega | (simp only [List.length_map, List.length_append, List.length_cons, List.length_nil, List.length_replicate, List.length_drop, List.length_take]; omega), by unfold maxLen; first | omega | (simp only [List.length_map, List.length_append, List.length_cons, List.length_nil, List.length_replicate, List.length_drop, List.length_take]; omega), ?_⟩)
    | (refine hK _ _ rfl ?_; clear hK K; try refine go1 ?_)
    | (refine am_retC [(1, 1), (2, 2), (6, 3)] rfl ?_ rfl rfl; first | refine go ?_ | rfl)
    | (refine am_retB [(1, 1), (2, 2), (6, 3)] rfl ?_ ?_ rfl <;> first | refine go ?_ | rfl)
    | (refine wkq ?_)
    | (refine am_rs tabOk kOk rfl fun K Q1 hK => ?_; refine go1 ?_)
    | (refine am_ds mixed tabOk kOk rfl rfl fun K hK => ?_; refine go1 ?_)
    | (refine am_dreg mixed tabOk kOk rfl rfl fun K hK => ?_; refine go1 ?_)
  all_goals first | rfl | (exfalso; clear hp; simp only [fitB, decide_eq_true_eq] at *; omega)
def planR (s u : Stb) : AR := if planC s u = 0 then (.agg [ci 0, .own 3 0 (recL s u).length], [(1, .arr 87 7 (s.log.map Ent.tr)), (2, .arr 87 7 (u.log.map Ent.tr)), (3, .arr 89 11 ((recL s u).map Rec.tr))], 4) else (.agg [ci (planC s u), .t (.v (.slice none 0 0))], [(1, .arr 87 7 (s.log.map Ent.tr)), (2, .arr 87 7 (u.log.map Ent.tr))], 3)
theorem planRS (s u : Stb) (hl : s.log.length ≤ 1048576) (hl2 : u.log.length ≤ 1048576) : TC Try.prog 14 [.agg [ci s.term, ci s.vote, .own 1 0 s.log.length], .agg [ci u.term, ci u.vote, .own 2 0 u.log.length]] [(1, .arr 87 7 (s.log.map Ent.tr)), (2, .arr 87 7 (u.log.map Ent.tr))] 3 (planR s u).1 (planR s u).2.1 (planR s u).2.2 := by
  by_cases h : planC s u = 0
  · rw [show planR s u = _ from if_pos h]
    obtain ⟨h1, h2, h3⟩ := planC0 h
    exact planS_ok s u hl hl2 h1 h2 h3
  · rw [show planR s u = _ from if_neg h]
    exact planS_no s u hl hl2 h
theorem planRI (s u : Stb) (hl : s.log.length ≤ 1048576) (hl2 : u.log.length ≤ 1048576) : TC Try.prog 16 [.agg [ci s.term, ci s.vote, .own 1 0 s.log.length], .agg [ci u.term, ci u.vote, .own 2 0 u.log.length]] [(1, .arr 87 7 (s.log.map Ent.tr)), (2, .arr 87 7 (u.log.map Ent.tr))] 3 (planR s u).1 (planR s u).2.1 (planR s u).2.2 := by
  by_cases h : planC s u = 0
  · rw [show planR s u = _ from if_pos h]
    exact planI_ok s u hl hl2 h
  · rw [show planR s u = _ from if_neg h]
    exact planI_no s u hl hl2 h
end Go.Proofs.YtaolgdpkcbfocaaA
