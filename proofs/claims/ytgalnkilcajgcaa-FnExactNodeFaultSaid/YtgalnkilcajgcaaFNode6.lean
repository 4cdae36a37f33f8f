/- Nodes: what a leader knows of the others, in the implementation. -/
import Derived.Test.YtgalnkilcajgcaaFNode5
namespace Go.Proofs.YtgalnkilcajgcaaA
open Go.Proofs
set_option autoImplicit false
set_option linter.unusedVariables false
set_option linter.unusedSimpArgs false
set_option maxRecDepth 4000
set_option maxHeartbeats 32000000 in
theorem lsI_tc (c : Nd) (hlg : c.log.length ≤ 1048576) (hne : c.ne.length ≤ 1048576) (hma : c.ma.length ≤ 1048576) (hse : c.se.length ≤ 1048576) (hst : c.st.length ≤ 1048576) (h3 : 3 ≤ c.sz) (h7 : c.sz ≤ 7) (hi1 : 1 ≤ c.id) (hi2 : c.id ≤ c.sz) : TC Try.prog 153 [.agg c.cv] [] 1 (bool (lsF c)) [] 1 := by
  refine tc_intro Try.func153 rfl 97 rfl (Nat.le_of_ble_eq_true rfl) (by decide) [2] rfl (by intro id x h; cases h) ?_
  intro w0 E0
  have kOk := k33
  obtain ⟨id, sz, el, be, te, vo, ro, le, co, no, de, he, log, gr, ne, ma, se, st⟩ := c
  simp only at hlg hne hma hse hst h3 h7 hi1 hi2
  simp only [Nd.cv]
  have hp1 := (show (ne.map iTr).length = ne.length ∧ (ma.map iTr).length = ma.length ∧ (se.map iTr).length = se.length ∧ (st.map iTr).length = st.length ∧ IntKind.i64.wrap (0 + 1) = 1 ∧ IntKind.i64.wrap (1 + 1) = 2 ∧ IntKind.i64.wrap (2 + 1) = 3 ∧ IntKind.i64.wrap (3 + 1) = 4 from
    ⟨by simp, by simp, by simp, by simp, rfl, rfl, rfl, rfl⟩)
  by_cases hr : ro = 3
  · have hg : lsF ⟨id, sz, el, be, te, vo, ro, le, co, no, de, he, log, gr, ne, ma, se, st⟩ = (decide ((ne.length : Int) = sz ∧ (ma.length : Int) = sz ∧ (se.length : Int) = sz ∧ (st.length : Int) = sz) && lsGo ⟨id, sz, el, be, te, vo, ro, le, co, no, de, he, log, gr, ne, ma, se, st⟩ sz.toNat 0) := if_pos hr
    rw [hg]
    have hp := And.intro hp1 (show (ro == 3) = true from by simpa using hr)
    refine wk1 ?_
    refine am_tidy [(1, 1)] [1, 3, 21, 22] 2 rfl ?_
    refine go1 ?_
    refine am_loop 5 ?_
    all_goals refine amR_succ ?_
    repeat' (fail_if_success (with_reducible apply amR_id)); first
      | (refine guardP_mk (fun h => ?_) (fun h => ?_) <;> (refine go1 ?_; try simp only [decide_eq_true_eq, decide_eq_false_iff_not, Bool.not_true, Bool.not_false, Bool.not_eq_true', Bool.not_eq_false', beq_iff_eq, bne_iff_ne, beq_eq_false_iff_ne, bne_eq_false_iff_eq, ne_eq, Bool.false_eq_true, reduceCtorEq] at h))
      | (refine hK _ ?_; clear hK K Q1)
      | (refine hK _ _ rfl ?_; clear hK K; try refine go1 ?_)
      | (refine am_retP rfl ?_ rfl; first | refine go ?_ | rfl)
      | (refine am_retC [] rfl ?_ rfl rfl; first | refine go ?_ | rfl)
      | (refine wkq ?_)
      | (refine am_rs tabOk kOk rfl fun K Q1 hK => ?_; refine go1 ?_)
      | (refine am_ds mixed tabOk kOk rfl rfl fun K hK => ?_; refine go1 ?_)
      | (refine am_dreg mixed tabOk kOk rfl rfl fun K hK => ?_; refine go1 ?_)
    all_goals first | (exfalso; clear hp hp1; grind) | (simp only [TV.c.injEq, CV.t.injEq, Tree.v.injEq, Value.bool.injEq]; clear hp hp1; grind) | skip
    all_goals refine amR_succ ?_
    repeat' (fail_if_success (with_reducible apply amR_id)); first
      | (refine guardP_mk (fun h => ?_) (fun h => ?_) <;> (refine go1 ?_; try simp only [decide_eq_true_eq, decide_eq_false_iff_not, Bool.not_true, Bool.not_false, Bool.not_eq_true', Bool.not_eq_false', beq_iff_eq, bne_iff_ne, beq_eq_false_iff_ne, bne_eq_false_iff_eq, ne_eq, Bool.false_eq_true, reduceCtorEq] at h))
      | (refine hK _ ?_; clear hK K Q1)
      | (refine hK _ _ rfl ?_; clear hK K; try refine go1 ?_)
      | (refine am_retP rfl ?_ rfl; first | refine go ?_ | rfl)
      | (refine am_retC [] rfl ?_ rfl rfl; first | refine go ?_ | rfl)
      | (refine wkq ?_)
      | (refine am_rs tabOk kOk rfl fun K Q1 hK => ?_; refine go1 ?_)
      | (refine am_ds mixed tabOk kOk rfl rfl fun K hK => ?_; refine go1 ?_)
      | (refine am_dreg mixed tabOk kOk rfl rfl fun K hK => ?_; refine go1 ?_)
    all_goals first | (exfalso; clear hp hp1; grind) | (simp only [TV.c.injEq, CV.t.injEq, Tree.v.injEq, Value.bool.injEq]; clear hp hp1; grind) | skip
    all_goals refine amR_succ ?_
    repeat' (fail_if_success (with_reducible apply amR_id)); first
      | (refine guardP_mk (fun h => ?_) (fun h => ?_) <;> (refine go1 ?_; try simp only [decide_eq_true_eq, decide_eq_false_iff_not, Bool.not_true, Bool.not_false, Bool.not_eq_true', Bool.not_eq_false', beq_iff_eq, bne_iff_ne, beq_eq_false_iff_ne, bne_eq_false_iff_eq, ne_eq, Bool.false_eq_true, reduceCtorEq] at h))
      | (refine hK _ ?_; clear hK K Q1)
      | (refine hK _ _ rfl ?_; clear hK K; try refine go1 ?_)
      | (refine am_retP rfl ?_ rfl; first | refine go ?_ | rfl)
      | (refine am_retC [] rfl ?_ rfl rfl; first | refine go ?_ | rfl)
      | (refine wkq ?_)
      | (refine am_rs tabOk kOk rfl fun K Q1 hK => ?_; refine go1 ?_)
      | (refine am_ds mixed tabOk kOk rfl rfl fun K hK => ?_; refine go1 ?_)
      | (refine am_dreg mixed tabOk kOk rfl rfl fun K hK => ?_; refine go1 ?_)
    all_goals first | (exfalso; clear hp hp1; grind) | (simp only [TV.c.injEq, CV.t.injEq, Tree.v.injEq, Value.bool.injEq]; clear hp hp1; grind) | skip
    all_goals refine amR_succ ?_
    repeat' (fail_if_success (with_reducible apply amR_id)); first
      | (refine guardP_mk (fun h => ?_) (fun h => ?_) <;> (refine go1 ?_; try simp only [decide_eq_true_eq, decide_eq_false_iff_not, Bool.not_true, Bool.not_false, Bool.not_eq_true', Bool.not_eq_false', beq_iff_eq, bne_iff_ne, beq_eq_false_iff_ne, bne_eq_false_iff_eq, ne_eq, Bool.false_eq_true, reduceCtorEq] at h))
      | (refine hK _ ?_; clear hK K Q1)
      | (refine hK _ _ rfl ?_; clear hK K; try refine go1 ?_)
      | (refine am_retP rfl ?_ rfl; first | refine go ?_ | rfl)
      | (refine am_retC [] rfl ?_ rfl rfl; first | refine go ?_ | rfl)
      | (refine wkq ?_)
      | (refine am_rs tabOk kOk rfl fun K Q1 hK => ?_; refine go1 ?_)
      | (refine am_ds mixed tabOk kOk rfl rfl fun K hK => ?_; refine go1 ?_)
      | (refine am_dreg mixed tabOk kOk rfl rfl fun K hK => ?_; refine go1 ?_)
    all_goals first | (exfalso; clear hp hp1; grind) | (simp only [TV.c.injEq, CV.t.injEq, Tree.v.injEq, Value.bool.injEq]; clear hp hp1; grind) | skip
    all_goals refine amR_succ ?_
    repeat' (fail_if_success (with_reducible apply amR_id)); first
      | (refine guardP_mk (fun h => ?_) (fun h => ?_) <;> (refine go1 ?_; try simp only [decide_eq_true_eq, decide_eq_false_iff_not, Bool.not_true, Bool.not_false, Bool.not_eq_true', Bool.not_eq_false', beq_iff_eq, bne_iff_ne, beq_eq_false_iff_ne, bne_eq_false_iff_eq, ne_eq, Bool.false_eq_true, reduceCtorEq] at h))
      | (refine hK _ ?_; clear hK K Q1)
      | (refine hK _ _ rfl ?_; clear hK K; try refine go1 ?_)
      | (refine am_retP rfl ?_ rfl; first | refine go ?_ | rfl)
      | (refine am_retC [] rfl ?_ rfl rfl; first | refine go ?_ | rfl)
      | (refine wkq ?_)
      | (refine am_rs tabOk kOk rfl fun K Q1 hK => ?_; refine go1 ?_)
      | (refine am_ds mixed tabOk kOk rfl rfl fun K hK => ?_; refine go1 ?_)
      | (refine am_dreg mixed tabOk kOk rfl rfl fun K hK => ?_; refine go1 ?_)
    all_goals first | (exfalso; clear hp hp1; grind) | (simp only [TV.c.injEq, CV.t.injEq, Tree.v.injEq, Value.bool.injEq]; clear hp hp1; grind) | skip
    have hlen : (ne.length : Int) = sz ∧ (ma.length : Int) = sz ∧ (se.length : Int) = sz ∧ (st.length : Int) = sz := by clear hp hp1 hg; grind
    rw [decide_eq_true hlen, Bool.true_and]
    refine am_tidy [(1, 1)] [1, 30, 31] 2 rfl ?_
    refine go1 ?_
    refine am_loop (sz.toNat + 1) ?_
    suffices key : ∀ (d k : Nat), k + d = sz.toNat → lsGo ⟨id, sz, el, be, te, vo, ro, le, co, no, de, he, log, gr, ne, ma, se, st⟩ d k = lsGo ⟨id, sz, el, be, te, vo, ro, le, co, no, de, he, log, gr, ne, ma, se, st⟩ sz.toNat 0 → amR Try.prog _ _ _ (d + 1) ⟨[(1, .c (.ptr 1 0)), (30, int sz), (31, int (k : Nat))], [(1, .cells (Nd.cv ⟨id, sz, el, be, te, vo, ro, le, co, no, de, he, log, gr, ne, ma, se, st⟩))], 2⟩ from key sz.toNat 0 (by simp) rfl
    clear hp hp1 hg
    intro d
    induction d with
    | zero =>
      intro k hk hf
      have hp := trivial
      refine amR_succ ?_
      repeat' (fail_if_success (with_reducible apply amR_id)); first
        | (refine guardP_mk (fun h => ?_) (fun h => ?_) <;> (refine go1 ?_; try simp only [decide_eq_true_eq, decide_eq_false_iff_not, Bool.not_true, Bool.not_false, Bool.not_eq_true', Bool.not_eq_false', beq_iff_eq, bne_iff_ne, beq_eq_false_iff_ne, bne_eq_false_iff_eq, ne_eq, Bool.false_eq_true, reduceCtorEq] at h))
        | (refine hK _ ?_; clear hK K Q1)
        | (refine hK _ _ rfl ?_; clear hK K; try refine go1 ?_)
        | (refine am_retP rfl ?_ rfl; first | refine go ?_ | rfl)
        | (refine am_retC [] rfl ?_ rfl rfl; first | refine go ?_ | rfl)
        | (refine wkq ?_)
        | (refine am_rs tabOk kOk rfl fun K Q1 hK => ?_; refine go1 ?_)
        | (refine am_ds mixed tabOk kOk rfl rfl fun K hK => ?_; refine go1 ?_)
        | (refine am_dreg mixed tabOk kOk rfl rfl fun K hK => ?_; refine go1 ?_)
      all_goals first | (exfalso; omega) | (rw [← hf]; rfl)
    | succ d ih =>
      intro k hk hf
      obtain ⟨a, ha⟩ : ∃ e, ne[k]? = some e := ⟨ne[k]'(by omega), List.getElem?_eq_getElem (by omega)⟩
      obtain ⟨b, hb⟩ : ∃ e, ma[k]? = some e := ⟨ma[k]'(by omega), List.getElem?_eq_getElem (by omega)⟩
      obtain ⟨x, hx⟩ : ∃ e, se[k]? = some e := ⟨se[k]'(by omega), List.getElem?_eq_getElem (by omega)⟩
      obtain ⟨y, hy⟩ : ∃ e, st[k]? = some e := ⟨st[k]'(by omega), List.getElem?_eq_getElem (by omega)⟩
      have hat : atF ⟨id, sz, el, be, te, vo, ro, le, co, no, de, he, log, gr, ne, ma, se, st⟩ k = at4 id no log.length k a b x y := by simp only [atF]; rw [getDat ha, getDat hb, getDat hx, getDat hy]
      rw [lsGo, hat] at hf
      have hp := (show (ne.map iTr)[k]? = some (iTr a) ∧ (ma.map iTr)[k]? = some (iTr b) ∧ (se.map iTr)[k]? = some (iTr x) ∧ (st.map iTr)[k]? = some (iTr y) ∧ IntKind.i64.wrap ((k : Int) + 1) = ((k + 1 : Nat) : Int) ∧ IntKind.i64.wrap (id - 1) = id - 1 ∧ (log.map Ent.tr).length = log.length ∧ IntKind.i64.wrap ((log.length : Int) + 1) = (log.length : Int) + 1 from
        ⟨by rw [List.getElem?_map, ha]; rfl, by rw [List.getElem?_map, hb]; rfl, by rw [List.getElem?_map, hx]; rfl, by rw [List.getElem?_map, hy]; rfl, by rw [wrapN (by omega) (by omega)]; rfl, wrapN (by omega) (by omega), by simp, wrapN (by omega) (by omega)⟩)
      have hw : IntKind.i64.wrap ((log.length : Int) + 1) = (log.length : Int) + 1 := wrapN (by omega) (by omega)
      simp only [iTr] at hp
      refine amR_succ ?_
      repeat' (fail_if_success (with_reducible apply amR_id)); first
        | (refine guardP_mk (fun h => ?_) (fun h => ?_) <;> (refine go1 ?_; try simp only [decide_eq_true_eq, decide_eq_false_iff_not, Bool.not_true, Bool.not_false, Bool.not_eq_true', Bool.not_eq_false', beq_iff_eq, bne_iff_ne, beq_eq_false_iff_ne, bne_eq_false_iff_eq, ne_eq, Bool.false_eq_true, reduceCtorEq] at h))
        | (refine hK _ ?_; clear hK K Q1)
        | (refine hK _ _ rfl ?_; clear hK K; try refine go1 ?_)
        | (refine am_retP rfl ?_ rfl; first | refine go ?_ | rfl)
        | (refine am_retC [] rfl ?_ rfl rfl; first | refine go ?_ | rfl)
        | (refine am_retB [(1, 1)] rfl ?_ ?_ rfl <;> first | refine go ?_ | rfl)
        | (refine wkq ?_)
        | (refine am_rs tabOk kOk rfl fun K Q1 hK => ?_; refine go1 ?_)
        | (refine am_ds mixed tabOk kOk rfl rfl fun K hK => ?_; refine go1 ?_)
        | (refine am_dreg mixed tabOk kOk rfl rfl fun K hK => ?_; refine go1 ?_)
      all_goals try (refine amR_tidy [(1, 1)] [1, 30, 31] 2 rfl ?_; refine go1 ?_; refine ih (k + 1) ?_ ?_)
      all_goals first | omega | (clear ih hp; simp only [TV.c.injEq, CV.t.injEq, Tree.v.injEq, Value.bool.injEq, inB, at4, List.length_map] at *; simp only [hw] at *; grind) | (clear ih hp; simp only [inB, at4, List.length_map] at *; simp only [hw] at *; grind) | (clear ih hp; simp only [TV.c.injEq, CV.t.injEq, Tree.v.injEq, Value.bool.injEq, inB, at4] at *; grind) | (clear ih hp; simp only [inB, at4] at *; grind) | (clear ih hp)
  · have hg : lsF ⟨id, sz, el, be, te, vo, ro, le, co, no, de, he, log, gr, ne, ma, se, st⟩ = decide (ne.length = 0 ∧ ma.length = 0 ∧ se.length = 0 ∧ st.length = 0) := if_neg hr
    rw [hg]
    have hp := And.intro hp1 (show (ro == 3) = false from by simpa using hr)
    refine wk1 ?_
    refine am_tidy [(1, 1)] [1, 3, 21, 22] 2 rfl ?_
    refine go1 ?_
    refine am_loop 5 ?_
    all_goals refine amR_succ ?_
    repeat' (fail_if_success (with_reducible apply amR_id)); first
      | (refine guardP_mk (fun h => ?_) (fun h => ?_) <;> (refine go1 ?_; try simp only [decide_eq_true_eq, decide_eq_false_iff_not, Bool.not_true, Bool.not_false, Bool.not_eq_true', Bool.not_eq_false', beq_iff_eq, bne_iff_ne, beq_eq_false_iff_ne, bne_eq_false_iff_eq, ne_eq, Bool.false_eq_true, reduceCtorEq] at h))
      | (refine hK _ ?_; clear hK K Q1)
      | (refine hK _ _ rfl ?_; clear hK K; try refine go1 ?_)
      | (refine am_retP rfl ?_ rfl; first | refine go ?_ | rfl)
      | (refine am_retC [] rfl ?_ rfl rfl; first | refine go ?_ | rfl)
      | (refine wkq ?_)
      | (refine am_rs tabOk kOk rfl fun K Q1 hK => ?_; refine go1 ?_)
      | (refine am_ds mixed tabOk kOk rfl rfl fun K hK => ?_; refine go1 ?_)
      | (refine am_dreg mixed tabOk kOk rfl rfl fun K hK => ?_; refine go1 ?_)
    all_goals first | (exfalso; clear hp hp1; grind) | (simp only [TV.c.injEq, CV.t.injEq, Tree.v.injEq, Value.bool.injEq]; clear hp hp1; grind) | skip
    all_goals refine amR_succ ?_
    repeat' (fail_if_success (with_reducible apply amR_id)); first
      | (refine guardP_mk (fun h => ?_) (fun h => ?_) <;> (refine go1 ?_; try simp only [decide_eq_true_eq, decide_eq_false_iff_not, Bool.not_true, Bool.not_false, Bool.not_eq_true', Bool.not_eq_false', beq_iff_eq, bne_iff_ne, beq_eq_false_iff_ne, bne_eq_false_iff_eq, ne_eq, Bool.false_eq_true, reduceCtorEq] at h))
      | (refine hK _ ?_; clear hK K Q1)
      | (refine hK _ _ rfl ?_; clear hK K; try refine go1 ?_)
      | (refine am_retP rfl ?_ rfl; first | refine go ?_ | rfl)
      | (refine am_retC [] rfl ?_ rfl rfl; first | refine go ?_ | rfl)
      | (refine wkq ?_)
      | (refine am_rs tabOk kOk rfl fun K Q1 hK => ?_; refine go1 ?_)
      | (refine am_ds mixed tabOk kOk rfl rfl fun K hK => ?_; refine go1 ?_)
      | (refine am_dreg mixed tabOk kOk rfl rfl fun K hK => ?_; refine go1 ?_)
    all_goals first | (exfalso; clear hp hp1; grind) | (simp only [TV.c.injEq, CV.t.injEq, Tree.v.injEq, Value.bool.injEq]; clear hp hp1; grind) | skip
    all_goals refine amR_succ ?_
    repeat' (fail_if_success (with_reducible apply amR_id)); first
      | (refine guardP_mk (fun h => ?_) (fun h => ?_) <;> (refine go1 ?_; try simp only [decide_eq_true_eq, decide_eq_false_iff_not, Bool.not_true, Bool.not_false, Bool.not_eq_true', Bool.not_eq_false', beq_iff_eq, bne_iff_ne, beq_eq_false_iff_ne, bne_eq_false_iff_eq, ne_eq, Bool.false_eq_true, reduceCtorEq] at h))
      | (refine hK _ ?_; clear hK K Q1)
      | (refine hK _ _ rfl ?_; clear hK K; try refine go1 ?_)
      | (refine am_retP rfl ?_ rfl; first | refine go ?_ | rfl)
      | (refine am_retC [] rfl ?_ rfl rfl; first | refine go ?_ | rfl)
      | (refine wkq ?_)
      | (refine am_rs tabOk kOk rfl fun K Q1 hK => ?_; refine go1 ?_)
      | (refine am_ds mixed tabOk kOk rfl rfl fun K hK => ?_; refine go1 ?_)
      | (refine am_dreg mixed tabOk kOk rfl rfl fun K hK => ?_; refine go1 ?_)
    all_goals first | (exfalso; clear hp hp1; grind) | (simp only [TV.c.injEq, CV.t.injEq, Tree.v.injEq, Value.bool.injEq]; clear hp hp1; grind) | skip
    all_goals refine amR_succ ?_
    repeat' (fail_if_success (with_reducible apply amR_id)); first
      | (refine guardP_mk (fun h => ?_) (fun h => ?_) <;> (refine go1 ?_; try simp only [decide_eq_true_eq, decide_eq_false_iff_not, Bool.not_true, Bool.not_false, Bool.not_eq_true', Bool.not_eq_false', beq_iff_eq, bne_iff_ne, beq_eq_false_iff_ne, bne_eq_false_iff_eq, ne_eq, Bool.false_eq_true, reduceCtorEq] at h))
      | (refine hK _ ?_; clear hK K Q1)
      | (refine hK _ _ rfl ?_; clear hK K; try refine go1 ?_)
      | (refine am_retP rfl ?_ rfl; first | refine go ?_ | rfl)
      | (refine am_retC [] rfl ?_ rfl rfl; first | refine go ?_ | rfl)
      | (refine wkq ?_)
      | (refine am_rs tabOk kOk rfl fun K Q1 hK => ?_; refine go1 ?_)
      | (refine am_ds mixed tabOk kOk rfl rfl fun K hK => ?_; refine go1 ?_)
      | (refine am_dreg mixed tabOk kOk rfl rfl fun K hK => ?_; refine go1 ?_)
    all_goals first | (exfalso; clear hp hp1; grind) | (simp only [TV.c.injEq, CV.t.injEq, Tree.v.injEq, Value.bool.injEq]; clear hp hp1; grind) | skip
    all_goals refine amR_succ ?_
    repeat' (fail_if_success (with_reducible apply amR_id)); first
      | (refine guardP_mk (fun h => ?_) (fun h => ?_) <;> (refine go1 ?_; try simp only [decide_eq_true_eq, decide_eq_false_iff_not, Bool.not_true, Bool.not_false, Bool.not_eq_true', Bool.not_eq_false', beq_iff_eq, bne_iff_ne, beq_eq_false_iff_ne, bne_eq_false_iff_eq, ne_eq, Bool.false_eq_true, reduceCtorEq] at h))
      | (refine hK _ ?_; clear hK K Q1)
      | (refine hK _ _ rfl ?_; clear hK K; try refine go1 ?_)
      | (refine am_retP rfl ?_ rfl; first | refine go ?_ | rfl)
      | (refine am_retC [] rfl ?_ rfl rfl; first | refine go ?_ | rfl)
      | (refine wkq ?_)
      | (refine am_rs tabOk kOk rfl fun K Q1 hK => ?_; refine go1 ?_)
      | (refine am_ds mixed tabOk kOk rfl rfl fun K hK => ?_; refine go1 ?_)
      | (refine am_dreg mixed tabOk kOk rfl rfl fun K hK => ?_; refine go1 ?_)
    all_goals first | (exfalso; clear hp hp1; grind) | (simp only [TV.c.injEq, CV.t.injEq, Tree.v.injEq, Value.bool.injEq]; clear hp hp1; grind) | skip
    refine am_tidy [(1, 1)] [1, 30, 31] 2 rfl ?_
    refine go1 ?_
    refine am_loop 1 (amR_succ ?_)
    repeat' (fail_if_success (with_reducible apply amR_id)); first
      | (refine guardP_mk (fun h => ?_) (fun h => ?_) <;> (refine go1 ?_; try simp only [decide_eq_true_eq, decide_eq_false_iff_not, Bool.not_true, Bool.not_false, Bool.not_eq_true', Bool.not_eq_false', beq_iff_eq, bne_iff_ne, beq_eq_false_iff_ne, bne_eq_false_iff_eq, ne_eq, Bool.false_eq_true, reduceCtorEq] at h))
      | (refine hK _ ?_; clear hK K Q1)
      | (refine hK _ _ rfl ?_; clear hK K; try refine go1 ?_)
      | (refine am_retP rfl ?_ rfl; first | refine go ?_ | rfl)
      | (refine am_retC [] rfl ?_ rfl rfl; first | refine go ?_ | rfl)
      | (refine wkq ?_)
      | (refine am_rs tabOk kOk rfl fun K Q1 hK => ?_; refine go1 ?_)
      | (refine am_ds mixed tabOk kOk rfl rfl fun K hK => ?_; refine go1 ?_)
      | (refine am_dreg mixed tabOk kOk rfl rfl fun K hK => ?_; refine go1 ?_)
    all_goals first | (exfalso; clear hp hp1; grind) | (simp only [TV.c.injEq, CV.t.injEq, Tree.v.injEq, Value.bool.injEq]; clear hp hp1; grind)
end Go.Proofs.YtgalnkilcajgcaaA
