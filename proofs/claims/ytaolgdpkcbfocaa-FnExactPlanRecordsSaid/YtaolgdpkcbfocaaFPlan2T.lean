/- Records that lead from one state to another, where the logs are only read: the reference's way. -/
import Derived.Test.YtaolgdpkcbfocaaFPlan4
namespace Go.Proofs.YtaolgdpkcbfocaaA
open Go.Proofs
set_option autoImplicit false
set_option linter.unusedVariables false
set_option linter.unusedSimpArgs false
set_option maxRecDepth 4000
set_option maxHeartbeats 16000000 in
theorem planST_ok (s u : Stb) (hl : s.log.length ≤ 1048576) (hl2 : u.log.length ≤ 1048576) (h1 : stF s = true) (h2 : stF u = true) (h3 : fitB s u = true) : TC Try.prog 14 [.agg s.cv, .agg u.cv] [] 1
    (.agg [ci 0, .own 1 0 (recL s u).length]) [(1, .arr 89 11 ((recL s u).map Rec.tr))] 2 := by
  refine tc_cell tabOk Try.func14 rfl 102 rfl (Nat.le_of_ble_eq_true rfl) (by decide) [(4, some 51)] rfl (by intro id x h; cases h) ?_
  intro w0 E0
  have kOk := k41
  have hf : fitR s ⟨1, u.term, u.vote, 0, noEnt⟩ = true := h3
  obtain ⟨t, v, l⟩ := s
  obtain ⟨t', v', l'⟩ := u
  simp only at hl hl2
  simp only [Stb.cv]
  have hm1 : (l.map Ent.tr).length = l.length := by simp
  have hm2 : (l'.map Ent.tr).length = l'.length := by simp
  simp only [noEnt] at hf
  have goal : ∀ H : List Rec, H = hardL ⟨t, v, l⟩ ⟨t', v', l'⟩ → H.length ≤ 1 := fun H e => by rw [e]; unfold hardL; split <;> simp
  by_cases hh : t = t' ∧ v = v'
  case' pos =>
    have hp := And.intro (And.intro hm1 hm2) (show (l.length ≤ 1048576) = True ∧ (l'.length ≤ 1048576) = True ∧ stF ⟨t, v, l⟩ = true ∧ stF ⟨t', v', l'⟩ = true ∧ fitR ⟨t, v, l⟩ ⟨1, t', v', 0, ⟨0, ⟨0, 0, 0, ⟨#[]⟩, ⟨#[]⟩, ⟨#[]⟩⟩⟩⟩ = true ∧ (t != t') = false ∧ (v != v') = false from ⟨eq_true hl, eq_true hl2, h1, h2, hf, by simp [hh.1], by simp [hh.2]⟩)
    refine wk1 ?_
    refine am_tidy [(1, 1), (2, 2), (3, 3), (5, 4)] [2, 3, 4, 6, 7] 5 rfl ?_
    refine go1 ?_
    have hH : hardL ⟨t, v, l⟩ ⟨t', v', l'⟩ = [] := by simp only [hardL, if_pos hh]
  case' neg =>
    by_cases h4 : t = t'
    case' pos =>
      have hp := And.intro (And.intro hm1 hm2) (show (l.length ≤ 1048576) = True ∧ (l'.length ≤ 1048576) = True ∧ stF ⟨t, v, l⟩ = true ∧ stF ⟨t', v', l'⟩ = true ∧ fitR ⟨t, v, l⟩ ⟨1, t', v', 0, ⟨0, ⟨0, 0, 0, ⟨#[]⟩, ⟨#[]⟩, ⟨#[]⟩⟩⟩⟩ = true ∧ (t != t') = false ∧ (v != v') = true from ⟨eq_true hl, eq_true hl2, h1, h2, hf, by simp [h4], by simp; exact fun e => hh ⟨h4, e⟩⟩)
    case' neg =>
      have hp := And.intro (And.intro hm1 hm2) (show (l.length ≤ 1048576) = True ∧ (l'.length ≤ 1048576) = True ∧ stF ⟨t, v, l⟩ = true ∧ stF ⟨t', v', l'⟩ = true ∧ fitR ⟨t, v, l⟩ ⟨1, t', v', 0, ⟨0, ⟨0, 0, 0, ⟨#[]⟩, ⟨#[]⟩, ⟨#[]⟩⟩⟩⟩ = true ∧ (t != t') = true from ⟨eq_true hl, eq_true hl2, h1, h2, hf, by simp [h4]⟩)
    all_goals
      refine wk1 ?_
      refine am_tidy [(1, 1), (2, 2), (3, 3), (7, 4)] [2, 3, 4, 6, 7] 5 rfl ?_
      refine go1 ?_
      have hH : hardL ⟨t, v, l⟩ ⟨t', v', l'⟩ = [⟨1, t', v', 0, noEnt⟩] := by simp only [hardL, if_neg hh]
  all_goals
    have hL := goal _ rfl
    clear hp goal
    refine am_st ⟨[(2, .c (.ptr 1 0)), (3, .c (.ptr 2 0)), (4, .c (.ptr 3 0)), (6, .c (.own 4 0 (hardL ⟨t, v, l⟩ ⟨t', v', l'⟩).length)), (7, int 0)], [(1, .cells [ci t, ci v, .t (.sl 7 (l.map Ent.tr))]), (2, .cells [ci t', ci v', .t (.sl 7 (l'.map Ent.tr))]), (3, .cells [ci 0, .t (.v (.slice none 0 0))]), (4, .arr 89 11 ((hardL ⟨t, v, l⟩ ⟨t', v', l'⟩).map Rec.tr))], 5⟩ (by rw [hH]; rfl) ?_
    clear hH hh
    simp only [recL, headL]
    generalize hardL ⟨t, v, l⟩ ⟨t', v', l'⟩ = H at hL ⊢
    have hcl := comF_le l l'
    obtain ⟨c, hcd⟩ : ∃ c, c = comF l l' := ⟨_, rfl⟩
    rw [← hcd] at hcl ⊢
    refine am_cut ⟨[(2, .c (.ptr 1 0)), (3, .c (.ptr 2 0)), (4, .c (.ptr 3 0)), (6, .c (.own 4 0 H.length)), (7, int (c : Nat))], [(1, .cells [ci t, ci v, .t (.sl 7 (l.map Ent.tr))]), (2, .cells [ci t', ci v', .t (.sl 7 (l'.map Ent.tr))]), (3, .cells [ci 0, .t (.v (.slice none 0 0))]), (4, .arr 89 11 (H.map Rec.tr))], 5⟩ ?_ (fun KC hKC => ?_)
    rotate_left
    · refine am_loop (l.length + 1) ?_
      suffices key : ∀ (d k : Nat), k + d = l.length → comF (l.drop k) (l'.drop k) + k = c → amR Try.prog _ _ _ (d + 1) ⟨[(2, .c (.ptr 1 0)), (3, .c (.ptr 2 0)), (4, .c (.ptr 3 0)), (6, .c (.own 4 0 H.length)), (7, int (k : Nat))], [(1, .cells [ci t, ci v, .t (.sl 7 (l.map Ent.tr))]), (2, .cells [ci t', ci v', .t (.sl 7 (l'.map Ent.tr))]), (3, .cells [ci 0, .t (.v (.slice none 0 0))]), (4, .arr 89 11 (H.map Rec.tr))], 5⟩ from key l.length 0 (by simp) (by simp [hcd])
      intro d
      induction d with
      | zero =>
        intro k hk hf
        rw [comF_end (.inl (by omega))] at hf
        obtain rfl : k = c := by omega
        have hp := And.intro (And.intro hm1 hm2) (show ((k : Int) < (l.length : Int)) = False from eq_false (by omega))
        refine amR_succ ?_
        repeat' (fail_if_success (with_reducible apply amR_id)); first
          | (refine guardP_mk (fun h => ?_) (fun h => ?_) <;> (refine go1 ?_; try simp only [decide_eq_true_eq, decide_eq_false_iff_not, Bool.not_true, Bool.not_false, Bool.not_eq_true', Bool.not_eq_false', beq_iff_eq, bne_iff_ne, beq_eq_false_iff_ne, bne_eq_false_iff_eq, ne_eq, Bool.false_eq_true, reduceCtorEq] at h))
          | (refine hK _ ?_; clear hK K Q1)
          | (refine ⟨by first | omega | (simp only [List.length_map, List.length_append, List.length_cons, List.length_nil, List.length_replicate, List.length_drop, List.length_take]; omega), by unfold maxLen; first | omega | (simp only [List.length_map, List.length_append, List.length_cons, List.length_nil, List.length_replicate, List.length_drop, List.length_take]; omega), ?_⟩)
          | (refine hK _ _ rfl ?_; clear hK K; try refine go1 ?_)
          | (refine am_retP rfl ?_ rfl; first | refine go ?_ | rfl)
          | (refine am_retC [] rfl ?_ rfl rfl; first | refine go ?_ | rfl)
          | (refine wkq ?_)
          | (refine am_rs tabOk kOk rfl fun K Q1 hK => ?_; refine go1 ?_)
          | (refine am_ds mixed tabOk kOk rfl rfl fun K hK => ?_; refine go1 ?_)
          | (refine am_dreg mixed tabOk kOk rfl rfl fun K hK => ?_; refine go1 ?_)
        all_goals (refine hKC _ [(1, 1), (2, 2), (3, 3), (4, 4)] [2, 3, 4, 6, 7] 5 rfl ?_; first | rfl | (refine go ?_; rfl))
      | succ d ih =>
        intro k hk hf
        obtain ⟨e, he⟩ : ∃ e, l[k]? = some e := ⟨l[k]'(by omega), List.getElem?_eq_getElem (by omega)⟩
        by_cases hk2 : l'.length ≤ k
        · rw [comF_end (.inr hk2)] at hf
          obtain rfl : k = c := by omega
          have hp := And.intro (And.intro hm1 hm2) (show ((k : Int) < (l.length : Int)) = True ∧ ((k : Int) < (l'.length : Int)) = False from ⟨eq_true (by omega), eq_false (by omega)⟩)
          refine amR_succ ?_
          repeat' (fail_if_success (with_reducible apply amR_id)); first
            | (refine guardP_mk (fun h => ?_) (fun h => ?_) <;> (refine go1 ?_; try simp only [decide_eq_true_eq, decide_eq_false_iff_not, Bool.not_true, Bool.not_false, Bool.not_eq_true', Bool.not_eq_false', beq_iff_eq, bne_iff_ne, beq_eq_false_iff_ne, bne_eq_false_iff_eq, ne_eq, Bool.false_eq_true, reduceCtorEq] at h))
            | (refine hK _ ?_; clear hK K Q1)
            | (refine ⟨by first | omega | (simp only [List.length_map, List.length_append, List.length_cons, List.length_nil, List.length_replicate, List.length_drop, List.length_take]; omega), by unfold maxLen; first | omega | (simp only [List.length_map, List.length_append, List.length_cons, List.length_nil, List.length_replicate, List.length_drop, List.length_take]; omega), ?_⟩)
            | (refine hK _ _ rfl ?_; clear hK K; try refine go1 ?_)
            | (refine am_retP rfl ?_ rfl; first | refine go ?_ | rfl)
            | (refine am_retC [] rfl ?_ rfl rfl; first | refine go ?_ | rfl)
            | (refine wkq ?_)
            | (refine am_rs tabOk kOk rfl fun K Q1 hK => ?_; refine go1 ?_)
            | (refine am_ds mixed tabOk kOk rfl rfl fun K hK => ?_; refine go1 ?_)
            | (refine am_dreg mixed tabOk kOk rfl rfl fun K hK => ?_; refine go1 ?_)
          all_goals (refine hKC _ [(1, 1), (2, 2), (3, 3), (4, 4)] [2, 3, 4, 6, 7] 5 rfl ?_; first | rfl | (refine go ?_; rfl))
        · obtain ⟨e', he'⟩ : ∃ e, l'[k]? = some e := ⟨l'[k]'(by omega), List.getElem?_eq_getElem (by omega)⟩
          rw [comF_drop he he'] at hf
          have hp := And.intro (And.intro hm1 hm2) (show ((k : Int) < (l.length : Int)) = True ∧ ((k : Int) < (l'.length : Int)) = True ∧ (k < l.length) = True ∧ (k < l'.length) = True ∧ (l.map Ent.tr)[k]? = some e.tr ∧ (l'.map Ent.tr)[k]? = some e'.tr ∧ IntKind.i64.wrap ((k : Int) + 1) = ((k + 1 : Nat) : Int) from ⟨eq_true (by omega), eq_true (by omega), eq_true (by omega), eq_true (by omega), by rw [List.getElem?_map, he]; rfl, by rw [List.getElem?_map, he']; rfl, by rw [wrapN (by omega) (by omega)]; rfl⟩)
          by_cases hee : e = e'
          · subst hee
            rw [if_pos rfl] at hf
            have hq := (show (∀ x : Int, (x == x) = true) ∧ (∀ x : ByteArray, (x == x) = true) from ⟨fun x => by simp, fun x => by rw [beq_toListBytes]; simp⟩)
            obtain ⟨ta, ⟨aa, ba, oa, xa, ya, za⟩⟩ := e
            simp only [Ent.tr] at hp
            replace hp := And.intro hp hq
            refine amR_succ ?_
            repeat' (fail_if_success (with_reducible apply amR_id)); first
              | (refine guardP_mk (fun h => ?_) (fun h => ?_) <;> (refine go1 ?_; try simp only [decide_eq_true_eq, decide_eq_false_iff_not, Bool.not_true, Bool.not_false, Bool.not_eq_true', Bool.not_eq_false', beq_iff_eq, bne_iff_ne, beq_eq_false_iff_ne, bne_eq_false_iff_eq, ne_eq, Bool.false_eq_true, reduceCtorEq] at h))
              | (refine hK _ ?_; clear hK K Q1)
              | (refine ⟨by first | omega | (simp only [List.length_map, List.length_append, List.length_cons, List.length_nil, List.length_replicate, List.length_drop, List.length_take]; omega), by unfold maxLen; first | omega | (simp only [List.length_map, List.length_append, List.length_cons, List.length_nil, List.length_replicate, List.length_drop, List.length_take]; omega), ?_⟩)
              | (refine hK _ _ rfl ?_; clear hK K; try refine go1 ?_)
              | (refine am_retP rfl ?_ rfl; first | refine go ?_ | rfl)
              | (refine am_retC [] rfl ?_ rfl rfl; first | refine go ?_ | rfl)
              | (refine wkq ?_)
              | (refine am_rs tabOk kOk rfl fun K Q1 hK => ?_; refine go1 ?_)
              | (refine am_ds mixed tabOk kOk rfl rfl fun K hK => ?_; refine go1 ?_)
              | (refine am_dreg mixed tabOk kOk rfl rfl fun K hK => ?_; refine go1 ?_)
            all_goals (refine amR_tidy [(1, 1), (2, 2), (3, 3), (4, 4)] [2, 3, 4, 6, 7] 5 rfl ?_; refine go1 ?_; exact ih (k + 1) (by omega) (by omega))
          · rw [if_neg hee] at hf
            obtain rfl : k = c := by omega
            obtain ⟨ta, ⟨aa, ba, oa, xa, ya, za⟩⟩ := e
            obtain ⟨tb, ⟨ab, bb, ob, xb, yb, zb⟩⟩ := e'
            simp only [Ent.tr] at hp
            have hne : (ta == tb && (aa == ab && (ba == bb && (oa == ob && (xa == xb && (ya == yb && za == zb)))))) = false := by
              rw [Bool.eq_false_iff]
              intro h
              simp only [Bool.and_eq_true, beq_iff_eq, bbIff] at h
              obtain ⟨rfl, rfl, rfl, rfl, rfl, rfl, rfl⟩ := h
              exact hee rfl
            replace hp := And.intro hp hne
            refine amR_succ ?_
            repeat' (fail_if_success (with_reducible apply amR_id)); first
              | (refine guardP_mk (fun h => ?_) (fun h => ?_) <;> (refine go1 ?_; try simp only [decide_eq_true_eq, decide_eq_false_iff_not, Bool.not_true, Bool.not_false, Bool.not_eq_true', Bool.not_eq_false', beq_iff_eq, bne_iff_ne, beq_eq_false_iff_ne, bne_eq_false_iff_eq, ne_eq, Bool.false_eq_true, reduceCtorEq] at h))
              | (refine hK _ ?_; clear hK K Q1)
              | (refine ⟨by first | omega | (simp only [List.length_map, List.length_append, List.length_cons, List.length_nil, List.length_replicate, List.length_drop, List.length_take]; omega), by unfold maxLen; first | omega | (simp only [List.length_map, List.length_append, List.length_cons, List.length_nil, List.length_replicate, List.length_drop, List.length_take]; omega), ?_⟩)
              | (refine hK _ _ rfl ?_; clear hK K; try refine go1 ?_)
              | (refine am_retP rfl ?_ rfl; first | refine go ?_ | rfl)
              | (refine am_retC [] rfl ?_ rfl rfl; first | refine go ?_ | rfl)
              | (refine wkq ?_)
              | (refine am_rs tabOk kOk rfl fun K Q1 hK => ?_; refine go1 ?_)
              | (refine am_ds mixed tabOk kOk rfl rfl fun K hK => ?_; refine go1 ?_)
              | (refine am_dreg mixed tabOk kOk rfl rfl fun K hK => ?_; refine go1 ?_)
            all_goals (refine hKC _ [(1, 1), (2, 2), (3, 3), (4, 4)] [2, 3, 4, 6, 7] 5 rfl ?_; first | rfl | (refine go ?_; rfl))
    · obtain ⟨J, hJ⟩ : ∃ J, J = H ++ cutL ⟨t, v, l⟩ c := ⟨_, rfl⟩
      rw [← hJ]
      have hJl : J.length ≤ 2 := by rw [hJ, List.length_append]; unfold cutL; split <;> simp <;> omega
      by_cases hq : c < l.length
      case' pos =>
        have hp := And.intro (And.intro hm1 hm2) (show ((c : Int) < (l.length : Int)) = True ∧ (H.length + 1 ≤ maxLen) = True ∧ (H.length + 1 ≤ 140737488355328) = True ∧ (H.length ≤ (H.map Rec.tr).length) = True ∧ (H.map Rec.tr).take H.length = H.map Rec.tr ∧ (H.map Rec.tr).length = H.length from ⟨eq_true (by omega), eq_true (by unfold maxLen; omega), eq_true (by omega), eq_true (by simp), List.take_of_length_le (by simp), by simp⟩)
        refine wk1 ?_
        refine am_reg tabOk kOk rfl fun K Q1 hK => ?_
        refine go1 ?_
        refine ⟨by omega, ?_⟩
        refine hK _ ?_
        clear hK K Q1
        refine go1 ?_
        refine wk1 ?_
        refine am_tidy [(1, 1), (2, 2), (3, 3), (6, 4)] [2, 3, 4, 6, 8] 5 rfl ?_
        refine go1 ?_
        have hJ2 : J = H ++ [⟨3, 0, 0, ((c : Nat) : Int), noEnt⟩] := by rw [hJ]; simp only [cutL, if_pos hq]
      case' neg =>
        have hp := And.intro (And.intro hm1 hm2) (show ((c : Int) < (l.length : Int)) = False from eq_false (by omega))
        refine wk1 ?_
        refine am_tidy [(1, 1), (2, 2), (3, 3), (4, 4)] [2, 3, 4, 6, 8] 5 rfl ?_
        refine go1 ?_
        have hJ2 : J = H := by rw [hJ]; simp only [cutL, if_neg hq, List.append_nil]
      all_goals
        clear hp
        refine am_st ⟨[(2, .c (.ptr 1 0)), (3, .c (.ptr 2 0)), (4, .c (.ptr 3 0)), (6, .c (.own 4 0 J.length)), (8, int (c : Nat))], [(1, .cells [ci t, ci v, .t (.sl 7 (l.map Ent.tr))]), (2, .cells [ci t', ci v', .t (.sl 7 (l'.map Ent.tr))]), (3, .cells [ci 0, .t (.v (.slice none 0 0))]), (4, .arr 89 11 (J.map Rec.tr))], 5⟩ (by rw [hJ2]; try simp [Rec.tr, noEnt]) ?_
        clear hJ2 hJ
        refine am_loop (l'.length - c + 1) ?_
        suffices key : ∀ (d i : Nat), i + d = l'.length → c ≤ i → amR Try.prog _ _ _ (d + 1) ⟨[(2, .c (.ptr 1 0)), (3, .c (.ptr 2 0)), (4, .c (.ptr 3 0)), (6, .c (.own 4 0 (J ++ addT l' c i).length)), (8, int (i : Nat))], [(1, .cells [ci t, ci v, .t (.sl 7 (l.map Ent.tr))]), (2, .cells [ci t', ci v', .t (.sl 7 (l'.map Ent.tr))]), (3, .cells [ci 0, .t (.v (.slice none 0 0))]), (4, .arr 89 11 ((J ++ addT l' c i).map Rec.tr))], 5⟩ from by
          have := key (l'.length - c) c (by omega) (Nat.le_refl _)
          rw [addT_zero, List.append_nil] at this
          exact this
        intro d
        induction d with
        | zero =>
          intro i hi hci
          obtain rfl : i = l'.length := hi
          rw [addT_all]
          have hp := And.intro (And.intro hm1 hm2) (show ((l'.length : Int) < (l'.length : Int)) = False from eq_false (by omega))
          refine amR_succ ?_
          refine wk1 ?_
          refine am_retC [(4, 1)] rfl ?_ rfl rfl
          first | refine go ?_ | rfl
        | succ d ih =>
          intro i hi hci
          obtain ⟨e, he⟩ : ∃ e, l'[i]? = some e := ⟨l'[i]'(by omega), List.getElem?_eq_getElem (by omega)⟩
          have ihk := ih (i + 1) (by omega) (by omega)
          rw [addT_succ he hci] at ihk
          have hXl : (J ++ addT l' c i).length ≤ 1048580 := by rw [List.length_append, addT_len (by omega)]; omega
          rw [← List.append_assoc] at ihk
          clear ih
          generalize J ++ addT l' c i = X at hXl ihk ⊢
          have hp := And.intro (And.intro hm1 hm2) (show ((i : Int) < (l'.length : Int)) = True ∧ (i < l'.length) = True ∧ (l'.map Ent.tr)[i]? = some e.tr ∧ IntKind.i64.wrap ((i : Int) + 1) = ((i + 1 : Nat) : Int) ∧ (X.length + 1 ≤ maxLen) = True ∧ ((X.length + 1) * 112 ≤ 140737488355328) = True ∧ (X.map Rec.tr).take X.length = X.map Rec.tr ∧ (X.map Rec.tr).length = X.length from ⟨eq_true (by omega), eq_true (by omega), by rw [List.getElem?_map, he]; rfl, by rw [wrapN (by omega) (by omega)]; rfl, eq_true (by unfold maxLen; omega), eq_true (by omega), List.take_of_length_le (by simp), by simp⟩)
          obtain ⟨ta, ⟨aa, ba, oa, xa, ya, za⟩⟩ := e
          simp only [Ent.tr] at hp
          refine amR_succ ?_
          refine wk1 ?_
          refine amR_tidy [(1, 1), (2, 2), (3, 3), (6, 4)] [2, 3, 4, 6, 8] 5 rfl ?_
          refine go1 ?_
          refine amR_st ?_ ihk
          simp [Rec.tr]
end Go.Proofs.YtaolgdpkcbfocaaA
