/- Nodes: their faults, in the implementation. -/
import Derived.Test.YtgalnkilcajgcaaFNode7
namespace Go.Proofs.YtgalnkilcajgcaaA
open Go.Proofs
set_option autoImplicit false
set_option linter.unusedVariables false
set_option linter.unusedSimpArgs false
set_option maxRecDepth 20000
set_option maxHeartbeats 32000000 in
theorem nfI_tc (c : Nd) (hlg : c.log.length ≤ 1048576) (hgr : c.gr.length ≤ 1048576) (hne : c.ne.length ≤ 1048576) (hma : c.ma.length ≤ 1048576) (hse : c.se.length ≤ 1048576) (hst : c.st.length ≤ 1048576) : TC Try.prog 57 [.agg c.cv] [] 1 (int (nfF c)) [] 1 := by
  refine tc_intro Try.func57 rfl 79 rfl (Nat.le_of_ble_eq_true rfl) (by decide) [2] rfl (by intro id x h; cases h) ?_
  intro w0 E0
  have kOk := k34
  obtain ⟨id, sz, el, be, te, vo, ro, le, co, no, de, he, log, gr, ne, ma, se, st⟩ := c
  simp only at hlg hgr hne hma hse hst
  simp only [Nd.cv]
  by_cases hc : conF id sz el be = true
  · obtain ⟨h3, h7, h1, h2⟩ := conF_ok hc
    have hp := (show conF id sz el be = true ∧ (log.length ≤ 1048576) = True ∧ (gr.length ≤ 1048576) = True ∧ (ne.length ≤ 1048576) = True ∧ (ma.length ≤ 1048576) = True ∧ (se.length ≤ 1048576) = True ∧ (st.length ≤ 1048576) = True ∧ (3 ≤ sz) = True ∧ (sz ≤ 7) = True ∧ (1 ≤ id) = True ∧ (id ≤ sz) = True ∧ (log.map Ent.tr).length = log.length from
      ⟨hc, eq_true hlg, eq_true hgr, eq_true hne, eq_true hma, eq_true hse, eq_true hst, eq_true h3, eq_true h7, eq_true h1, eq_true h2, by simp⟩)
    repeat' (fail_if_success (with_reducible apply amR_id)); first
      | (refine guardP_mk (fun h => ?_) (fun h => ?_) <;> (refine go1 ?_; try simp only [decide_eq_true_eq, decide_eq_false_iff_not, Bool.not_true, Bool.not_false, Bool.not_eq_true', Bool.not_eq_false', beq_iff_eq, bne_iff_ne, beq_eq_false_iff_ne, bne_eq_false_iff_eq, ne_eq, Bool.false_eq_true, reduceCtorEq] at h))
      | (refine hK _ ?_; clear hK K Q1)
      | (refine hK _ _ rfl ?_; clear hK K; try refine go1 ?_)
      | (refine am_retP rfl ?_ rfl; first | refine go ?_ | rfl)
      | (refine am_retC [] rfl ?_ rfl rfl; first | refine go ?_ | rfl)
      | (refine wkq ?_)
      | (refine am_rs tabOk kOk rfl fun K Q1 hK => ?_; refine go1 ?_)
      | (refine am_ds mixed tabOk kOk rfl rfl fun K hK => ?_; refine go1 ?_)
      | (refine am_dreg mixed tabOk kOk rfl rfl fun K hK => ?_; refine go1 ?_)
    all_goals first | (clear hp; simp only [fb, inB, nfF, hc, List.length_map, TV.c.injEq, CV.t.injEq, Tree.v.injEq, Value.int.injEq, true_and] at *; grind) | (clear hp; simp only [inB, decide_eq_true_eq, decide_eq_false_iff_not, if_true] at *; simp only [fb, nfF, hc, List.length_map]; (repeat' split) <;> grind) | (clear hp; simp only [fb, inB, nfF, hc, List.length_map] at *; (repeat' split) <;> simp_all <;> omega) | skip
  · have hc' : conF id sz el be = false := by simpa using hc
    have hp := hc'
    repeat' (fail_if_success (with_reducible apply amR_id)); first
      | (refine guardP_mk (fun h => ?_) (fun h => ?_) <;> (refine go1 ?_; try simp only [decide_eq_true_eq, decide_eq_false_iff_not, Bool.not_true, Bool.not_false, Bool.not_eq_true', Bool.not_eq_false', beq_iff_eq, bne_iff_ne, beq_eq_false_iff_ne, bne_eq_false_iff_eq, ne_eq, Bool.false_eq_true, reduceCtorEq] at h))
      | (refine hK _ ?_; clear hK K Q1)
      | (refine hK _ _ rfl ?_; clear hK K; try refine go1 ?_)
      | (refine am_retP rfl ?_ rfl; first | refine go ?_ | rfl)
      | (refine am_retC [] rfl ?_ rfl rfl; first | refine go ?_ | rfl)
      | (refine wkq ?_)
      | (refine am_rs tabOk kOk rfl fun K Q1 hK => ?_; refine go1 ?_)
      | (refine am_ds mixed tabOk kOk rfl rfl fun K hK => ?_; refine go1 ?_)
      | (refine am_dreg mixed tabOk kOk rfl rfl fun K hK => ?_; refine go1 ?_)
    all_goals (simp only [nfF, hc', if_true])
end Go.Proofs.YtgalnkilcajgcaaA
