/- Nodes: what the specification says of grants; what a leader knows of the others. -/
import Derived.Test.YtgalnkilcajgcaaFNode3
namespace Go.Proofs.YtgalnkilcajgcaaA
open Go.Proofs
set_option autoImplicit false
set_option linter.unusedVariables false
set_option linter.unusedSimpArgs false
set_option maxRecDepth 4000
set_option maxHeartbeats 16000000 in
theorem grS_tc (c : Nd) (hl : c.gr.length ≤ 1048576) (h3 : 3 ≤ c.sz) (h7 : c.sz ≤ 7) : TC Try.prog 147 [.agg c.cv] [] 1 (bool (grF c)) [] 1 := by
  refine tc_intro Try.func147 rfl 64 rfl (Nat.le_of_ble_eq_true rfl) (by decide) [2] rfl (by intro id x h; cases h) ?_
  intro w0 E0
  have kOk := k33
  obtain ⟨id, sz, el, be, te, vo, ro, le, co, no, de, he, log, gr, ne, ma, se, st⟩ := c
  have hl' : gr.length ≤ 1048576 := hl
  simp only at h3 h7
  simp only [Nd.cv]
  have hp := (show (gr.map iTr).length = gr.length ∧ (gr.length ≤ 1048576) = True ∧ ((gr.length : Int) ≤ 1048576) = True ∧ (0 ≤ (gr.length : Int)) = True from ⟨by simp, eq_true hl', eq_true (by omega), eq_true (by omega)⟩)
  by_cases hr : ro = 1 ∨ ro = 2
  · have hg : grF ⟨id, sz, el, be, te, vo, ro, le, co, no, de, he, log, gr, ne, ma, se, st⟩ = (incF gr 0 sz && decide (id ∈ gr) && decide (2 * (gr.length : Int) ≤ sz)) := if_pos hr
    rw [hg]
    refine hd ?_
    repeat' (fail_if_success (with_reducible apply amR_id)); first
      | (refine guardP_mk (fun h => ?_) (fun h => ?_) <;> (refine go1 ?_; try simp only [decide_eq_true_eq, decide_eq_false_iff_not, Bool.not_true, Bool.not_false, Bool.not_eq_true', Bool.not_eq_false', beq_iff_eq, bne_iff_ne, beq_eq_false_iff_ne, bne_eq_false_iff_eq, ne_eq, Bool.false_eq_true, reduceCtorEq] at h))
      | (refine hK _ ?_; clear hK K Q1)
      | (refine hK _ _ rfl ?_; clear hK K; try refine go1 ?_)
      | (refine am_retP rfl ?_ rfl; first | refine go ?_ | rfl)
      | (refine am_retC [] rfl ?_ rfl rfl; first | refine go ?_ | rfl)
      | (refine wkq ?_)
      | (refine am_rs tabOk kOk rfl fun K Q1 hK => ?_; refine go1 ?_)
      | (refine am_ds mixed tabOk kOk rfl rfl fun K hK => ?_; refine go1 ?_)
      | (refine am_dreg mixed tabOk kOk rfl rfl fun K hK => ?_; refine go1 ?_)
    all_goals first | (exfalso; clear hp hg; grind) | skip
    all_goals refine am_tidy [(1, 1)] [1, 3] 2 rfl ?_
    all_goals refine go1 ?_
    all_goals refine am_loop (gr.length + 1) ?_
    all_goals
      suffices key : ∀ (d k : Nat) (la : Int), k + d = gr.length → (k = 0 → la = 0) → 0 ≤ la → (∀ j e, k = j + 1 → gr[j]? = some e → e = la) → incF (gr.drop k) la sz = incF gr 0 sz → amR Try.prog _ _ _ (d + 1) ⟨[(1, .c (.ptr 1 0)), (3, int (k : Nat))], [(1, .cells (Nd.cv ⟨id, sz, el, be, te, vo, ro, le, co, no, de, he, log, gr, ne, ma, se, st⟩))], 2⟩ from key gr.length 0 0 (by simp) (fun _ => rfl) (Int.le_refl 0) (fun j e h => by omega) rfl
      have hp0 := hp
      clear hp
      intro d
      induction d with
      | zero =>
        intro k la hk h0 hla h1 hf
        have hp := hp0
        rw [List.drop_eq_nil_of_le (by omega)] at hf
        refine amR_succ ?_
        repeat' (fail_if_success (with_reducible apply amR_id)); first
          | (refine guardP_mk (fun h => ?_) (fun h => ?_) <;> (refine go1 ?_; try simp only [decide_eq_true_eq, decide_eq_false_iff_not, Bool.not_true, Bool.not_false, Bool.not_eq_true', Bool.not_eq_false', beq_iff_eq, bne_iff_ne, beq_eq_false_iff_ne, bne_eq_false_iff_eq, ne_eq, Bool.false_eq_true, reduceCtorEq] at h))
          | (refine hK _ ?_; clear hK K Q1)
          | (refine hK _ _ rfl ?_; clear hK K; try refine go1 ?_)
          | (refine am_retP rfl ?_ rfl; first | refine go ?_ | rfl)
          | (refine am_retC [] rfl ?_ rfl rfl; first | refine go ?_ | rfl)
          | (refine wkq ?_)
          | (refine am_rs tabOk kOk rfl fun K Q1 hK => ?_; refine go1 ?_)
          | (refine am_ds mixed tabOk kOk rfl rfl fun K hK => ?_; refine go1 ?_)
          | (refine am_dreg mixed tabOk kOk rfl rfl fun K hK => ?_; refine go1 ?_)
        all_goals (clear hp hp0; simp only [TV.c.injEq, CV.t.injEq, Tree.v.injEq, Value.bool.injEq, incF] at *; grind)
      | succ d ih =>
        intro k la hk h0 hla h1 hf
        obtain ⟨e, hee⟩ : ∃ e, gr[k]? = some e := ⟨gr[k]'(by omega), List.getElem?_eq_getElem (by omega)⟩
        rw [incF_drop hee] at hf
        refine amR_succ ?_
        have h2 : ∀ j e', k + 1 = j + 1 → gr[j]? = some e' → e' = e := fun j e' h3 h4 => by
          obtain rfl : j = k := by omega
          rw [hee] at h4; cases h4; rfl
        cases k with
        | zero =>
          have hlo := h0 rfl
          have hp := (show (gr.map iTr).length = gr.length ∧ (gr.map iTr)[0]? = some (iTr e) ∧ ((0 : Nat) : Int) = 0 ∧ IntKind.i64.wrap (0 + 1) = ((0 + 1 : Nat) : Int) ∧ ((0 : Int) > 0) = False from ⟨by simp, by rw [List.getElem?_map, hee]; rfl, rfl, rfl, by simp⟩)
          simp only [iTr] at hp
          repeat' (fail_if_success (with_reducible apply amR_id)); first
            | (refine guardP_mk (fun h => ?_) (fun h => ?_) <;> (refine go1 ?_; try simp only [decide_eq_true_eq, decide_eq_false_iff_not, Bool.not_true, Bool.not_false, Bool.not_eq_true', Bool.not_eq_false', beq_iff_eq, bne_iff_ne, beq_eq_false_iff_ne, bne_eq_false_iff_eq, ne_eq, Bool.false_eq_true, reduceCtorEq] at h))
            | (refine hK _ ?_; clear hK K Q1)
            | (refine hK _ _ rfl ?_; clear hK K; try refine go1 ?_)
            | (refine am_retP rfl ?_ rfl; first | refine go ?_ | rfl)
            | (refine am_retC [] rfl ?_ rfl rfl; first | refine go ?_ | rfl)
            | (refine am_retB [(1, 1)] rfl ?_ ?_ rfl <;> first | refine go ?_ | rfl)
            | (refine wkq ?_)
            | (refine am_rs tabOk kOk rfl fun K Q1 hK => ?_; refine go1 ?_)
            | (refine am_ds mixed tabOk kOk rfl rfl fun K hK => ?_; refine go1 ?_)
            | (refine am_dreg mixed tabOk kOk rfl rfl fun K hK => ?_; refine go1 ?_)
          all_goals try (refine amR_tidy [(1, 1)] [1, 3] 2 rfl ?_; refine go1 ?_; refine ih (0 + 1) e ?_ ?_ ?_ h2 ?_)
          all_goals first | omega | (clear ih hp hp0 h2; simp only [TV.c.injEq, CV.t.injEq, Tree.v.injEq, Value.bool.injEq, inB] at *; grind) | (clear ih hp hp0 h2; simp only [inB] at *; grind) | (clear ih hp hp0)
        | succ k =>
          obtain ⟨e0, he0⟩ : ∃ e, gr[k]? = some e := ⟨gr[k]'(by omega), List.getElem?_eq_getElem (by omega)⟩
          have hlo := h1 k e0 rfl he0
          have hp := (show (gr.map iTr).length = gr.length ∧ (gr.map iTr)[k + 1]? = some (iTr e) ∧ (gr.map iTr)[k]? = some (iTr e0) ∧ IntKind.i64.wrap (((k + 1 : Nat) : Int) + 1) = ((k + 1 + 1 : Nat) : Int) ∧ IntKind.i64.wrap (((k + 1 : Nat) : Int) - 1) = (k : Int) ∧ (((k + 1 : Nat) : Int) > 0) = True from
            ⟨by simp, by rw [List.getElem?_map, hee]; rfl, by rw [List.getElem?_map, he0]; rfl, by rw [wrapN (by omega) (by omega)]; rfl, by rw [wrapN (by omega) (by omega)]; omega, eq_true (by omega)⟩)
          simp only [iTr] at hp
          repeat' (fail_if_success (with_reducible apply amR_id)); first
            | (refine guardP_mk (fun h => ?_) (fun h => ?_) <;> (refine go1 ?_; try simp only [decide_eq_true_eq, decide_eq_false_iff_not, Bool.not_true, Bool.not_false, Bool.not_eq_true', Bool.not_eq_false', beq_iff_eq, bne_iff_ne, beq_eq_false_iff_ne, bne_eq_false_iff_eq, ne_eq, Bool.false_eq_true, reduceCtorEq] at h))
            | (refine hK _ ?_; clear hK K Q1)
            | (refine hK _ _ rfl ?_; clear hK K; try refine go1 ?_)
            | (refine am_retP rfl ?_ rfl; first | refine go ?_ | rfl)
            | (refine am_retC [] rfl ?_ rfl rfl; first | refine go ?_ | rfl)
            | (refine am_retB [(1, 1)] rfl ?_ ?_ rfl <;> first | refine go ?_ | rfl)
            | (refine wkq ?_)
            | (refine am_rs tabOk kOk rfl fun K Q1 hK => ?_; refine go1 ?_)
            | (refine am_ds mixed tabOk kOk rfl rfl fun K hK => ?_; refine go1 ?_)
            | (refine am_dreg mixed tabOk kOk rfl rfl fun K hK => ?_; refine go1 ?_)
          all_goals try (refine amR_tidy [(1, 1)] [1, 3] 2 rfl ?_; refine go1 ?_; refine ih (k + 1 + 1) e ?_ ?_ ?_ h2 ?_)
          all_goals first | omega | (clear ih hp hp0 h2; simp only [TV.c.injEq, CV.t.injEq, Tree.v.injEq, Value.bool.injEq, inB] at *; grind) | (clear ih hp hp0 h2; simp only [inB] at *; grind) | (clear ih hp hp0)
  · have hg : grF ⟨id, sz, el, be, te, vo, ro, le, co, no, de, he, log, gr, ne, ma, se, st⟩ = decide (gr.length = 0) := if_neg hr
    rw [hg]
    refine hd ?_
    repeat' (fail_if_success (with_reducible apply amR_id)); first
      | (refine guardP_mk (fun h => ?_) (fun h => ?_) <;> (refine go1 ?_; try simp only [decide_eq_true_eq, decide_eq_false_iff_not, Bool.not_true, Bool.not_false, Bool.not_eq_true', Bool.not_eq_false', beq_iff_eq, bne_iff_ne, beq_eq_false_iff_ne, bne_eq_false_iff_eq, ne_eq, Bool.false_eq_true, reduceCtorEq] at h))
      | (refine hK _ ?_; clear hK K Q1)
      | (refine hK _ _ rfl ?_; clear hK K; try refine go1 ?_)
      | (refine am_retP rfl ?_ rfl; first | refine go ?_ | rfl)
      | (refine am_retC [] rfl ?_ rfl rfl; first | refine go ?_ | rfl)
      | (refine wkq ?_)
      | (refine am_rs tabOk kOk rfl fun K Q1 hK => ?_; refine go1 ?_)
      | (refine am_ds mixed tabOk kOk rfl rfl fun K hK => ?_; refine go1 ?_)
      | (refine am_dreg mixed tabOk kOk rfl rfl fun K hK => ?_; refine go1 ?_)
    all_goals first | (exfalso; clear hp hg; grind) | (simp only [TV.c.injEq, CV.t.injEq, Tree.v.injEq, Value.bool.injEq]; clear hp; grind)
end Go.Proofs.YtgalnkilcajgcaaA
