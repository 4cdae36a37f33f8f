/- Records that lead from one state to another: the program's way. -/
import Derived.Test.YtaolgdpkcbfocaaFPlan2
namespace Go.Proofs.YtaolgdpkcbfocaaA
open Go.Proofs
set_option autoImplicit false
set_option linter.unusedVariables false
set_option linter.unusedSimpArgs false
set_option maxRecDepth 4000
set_option maxHeartbeats 16000000 in
theorem planI_tc (s u : Stb) (hl : s.log.length ≤ 1048576) (hl2 : u.log.length ≤ 1048576) : TC Try.prog 45 [.agg [ci s.term, ci s.vote, .own 1 0 s.log.length], .agg [ci u.term, ci u.vote, .own 2 0 u.log.length]] [(1, .arr 87 7 (s.log.map Ent.tr)), (2, .arr 87 7 (u.log.map Ent.tr))] 3
    (.c (.own 3 0 (recL s u).length)) [(1, .arr 87 7 (s.log.map Ent.tr)), (2, .arr 87 7 (u.log.map Ent.tr)), (3, .arr 89 11 ((recL s u).map Rec.tr))] 4 := by
  refine tc_intro Try.func45 rfl 84 rfl (Nat.le_of_ble_eq_true rfl) (by decide) [4] rfl dom2 ?_
  intro w0 E0
  have kOk := k41
  obtain ⟨t, v, l⟩ := s
  obtain ⟨t', v', l'⟩ := u
  simp only at hl hl2
  have goal : ∀ H : List Rec, H = hardL ⟨t, v, l⟩ ⟨t', v', l'⟩ → H.length ≤ 1 := fun H e => by rw [e]; unfold hardL; split <;> simp
  by_cases hh : t = t' ∧ v = v'
  case' pos =>
    have hp := (show (t != t') = false ∧ (v != v') = false from ⟨by simp [hh.1], by simp [hh.2]⟩)
    refine wk1 ?_
    refine am_ownNil 5 89 11 rfl ?_
    refine go1 ?_
    refine am_tidy [(1, 1), (2, 2), (3, 3), (4, 4), (5, 5)] [2, 3, 5, 6] 6 rfl ?_
    refine go1 ?_
    have hH : hardL ⟨t, v, l⟩ ⟨t', v', l'⟩ = [] := by simp only [hardL, if_pos hh]
  case' neg =>
    by_cases h4 : t = t'
    case' pos => have hp := (show (t != t') = false ∧ (v != v') = true from ⟨by simp [h4], by simp; exact fun e => hh ⟨h4, e⟩⟩)
    case' neg => have hp := (show (t != t') = true from by simp [h4])
    all_goals
      refine wk1 ?_
      refine am_tidy [(1, 1), (2, 2), (3, 3), (4, 4), (6, 5)] [2, 3, 5, 6] 6 rfl ?_
      refine go1 ?_
      have hH : hardL ⟨t, v, l⟩ ⟨t', v', l'⟩ = [⟨1, t', v', 0, noEnt⟩] := by simp only [hardL, if_neg hh]
  all_goals
    have hL := goal _ rfl
    clear hp goal
    refine am_st ⟨[(2, .c (.ptr 3 0)), (3, .c (.ptr 4 0)), (5, .c (.own 5 0 (hardL ⟨t, v, l⟩ ⟨t', v', l'⟩).length)), (6, int 0)], [(1, .arr 87 7 (l.map Ent.tr)), (2, .arr 87 7 (l'.map Ent.tr)), (3, .cells [ci t, ci v, .own 1 0 l.length]), (4, .cells [ci t', ci v', .own 2 0 l'.length]), (5, .arr 89 11 ((hardL ⟨t, v, l⟩ ⟨t', v', l'⟩).map Rec.tr))], 6⟩ (by rw [hH]; rfl) ?_
    clear hH hh
    simp only [recL, headL]
    generalize hardL ⟨t, v, l⟩ ⟨t', v', l'⟩ = H at hL ⊢
    have hcl := comF_le l l'
    obtain ⟨c, hcd⟩ : ∃ c, c = comF l l' := ⟨_, rfl⟩
    rw [← hcd] at hcl ⊢
    refine am_cut ⟨[(2, .c (.ptr 3 0)), (3, .c (.ptr 4 0)), (5, .c (.own 5 0 H.length)), (6, int (c : Nat))], [(1, .arr 87 7 (l.map Ent.tr)), (2, .arr 87 7 (l'.map Ent.tr)), (3, .cells [ci t, ci v, .own 1 0 l.length]), (4, .cells [ci t', ci v', .own 2 0 l'.length]), (5, .arr 89 11 (H.map Rec.tr))], 6⟩ ?_ (fun KC hKC => ?_)
    rotate_left
    · obtain ⟨M, hM, hM1, hM2, hM3⟩ : ∃ M : Nat, (if (l'.length : Int) < (l.length : Int) then (l'.length : Int) else (l.length : Int)) = (M : Int) ∧ M ≤ l.length ∧ M ≤ l'.length ∧ (M = l.length ∨ M = l'.length) := by
        by_cases hlt : (l'.length : Int) < (l.length : Int)
        · exact ⟨l'.length, if_pos hlt, by omega, by omega, .inr rfl⟩
        · exact ⟨l.length, if_neg hlt, by omega, by omega, .inl rfl⟩
      refine am_loop (M + 1) ?_
      suffices key : ∀ (d k : Nat), k + d = M → comF (l.drop k) (l'.drop k) + k = c → amR Try.prog _ _ _ (d + 1) ⟨[(2, .c (.ptr 3 0)), (3, .c (.ptr 4 0)), (5, .c (.own 5 0 H.length)), (6, int (k : Nat))], [(1, .arr 87 7 (l.map Ent.tr)), (2, .arr 87 7 (l'.map Ent.tr)), (3, .cells [ci t, ci v, .own 1 0 l.length]), (4, .cells [ci t', ci v', .own 2 0 l'.length]), (5, .arr 89 11 (H.map Rec.tr))], 6⟩ from key M 0 (by simp) (by simp [hcd])
      intro d
      induction d with
      | zero =>
        intro k hk hf
        rw [comF_end (by omega)] at hf
        obtain rfl : k = c := by omega
        have hp := (show (if (l'.length : Int) < (l.length : Int) then (l'.length : Int) else (l.length : Int)) = (M : Int) ∧ ((k : Int) < (M : Int)) = False from ⟨hM, eq_false (by omega)⟩)
        refine amR_succ ?_
        repeat' (fail_if_success (with_reducible apply amR_id)); first
          | (refine guardP_mk (fun h => ?_) (fun h => ?_) <;> (refine go1 ?_; try simp only [decide_eq_true_eq, decide_eq_false_iff_not, Bool.not_true, Bool.not_false, Bool.not_eq_true', Bool.not_eq_false', beq_iff_eq, bne_iff_ne, beq_eq_false_iff_ne, bne_eq_false_iff_eq, ne_eq, Bool.false_eq_true, reduceCtorEq] at h))
          | (refine hK _ ?_; clear hK K Q1)
          | (refine ⟨by first | omega | (simp only [List.length_map, List.length_append, List.length_cons, List.length_nil, List.length_replicate, List.length_drop, List.length_take]; omega), by unfold maxLen; first | omega | (simp only [List.length_map, List.length_append, List.length_cons, List.length_nil, List.length_replicate, List.length_drop, List.length_take]; omega), ?_⟩)
          | (refine hK _ _ rfl ?_; clear hK K; try refine go1 ?_)
          | (refine am_retP rfl ?_ rfl; first | refine go ?_ | rfl)
          | (refine am_retC [] rfl ?_ rfl rfl; first | refine go ?_ | rfl)
          | (refine wkq ?_)
          | (refine am_rs tabOk kOk rfl fun K Q1 hK => ?_; refine go1 ?_)
          | (refine am_ds mixed tabOk kOk rfl rfl fun K hK => ?_; refine go1 ?_)
          | (refine am_dreg mixed tabOk kOk rfl rfl fun K hK => ?_; refine go1 ?_)
        all_goals (refine hKC _ [(1, 1), (2, 2), (3, 3), (4, 4), (5, 5)] [2, 3, 5, 6] 6 rfl ?_; first | rfl | (refine go ?_; rfl))
      | succ d ih =>
        intro k hk hf
        obtain ⟨e, he⟩ : ∃ e, l[k]? = some e := ⟨l[k]'(by omega), List.getElem?_eq_getElem (by omega)⟩
        obtain ⟨e', he'⟩ : ∃ e, l'[k]? = some e := ⟨l'[k]'(by omega), List.getElem?_eq_getElem (by omega)⟩
        rw [comF_drop he he'] at hf
        have hp := (show (if (l'.length : Int) < (l.length : Int) then (l'.length : Int) else (l.length : Int)) = (M : Int) ∧ ((k : Int) < (M : Int)) = True ∧ (k < l.length) = True ∧ (k < l'.length) = True ∧ (l.map Ent.tr)[k]? = some e.tr ∧ (l'.map Ent.tr)[k]? = some e'.tr ∧ IntKind.i64.wrap ((k : Int) + 1) = ((k + 1 : Nat) : Int) from
          ⟨hM, eq_true (by omega), eq_true (by omega), eq_true (by omega), by rw [List.getElem?_map, he]; rfl, by rw [List.getElem?_map, he']; rfl, by rw [wrapN (by omega) (by omega)]; rfl⟩)
        by_cases hee : e = e'
        · subst hee
          rw [if_pos rfl] at hf
          have hq := (show (∀ x : Int, (x == x) = true) ∧ (∀ x : ByteArray, (x == x) = true) from ⟨fun x => by simp, fun x => by rw [beq_toListBytes]; simp⟩)
          obtain ⟨ta, ⟨aa, ba, oa, xa, ya, za⟩⟩ := e
          simp only [Ent.tr] at hp
          replace hp := And.intro hp hq
          refine amR_succ ?_
          repeat' (fail_if_success (with_reducible apply amR_id)); first
            | (refine guardP_mk (fun h => ?_) (fun h => ?_) <;> (refine go1 ?_; try simp only [decide_eq_true_eq, decide_eq_false_iff_not, Bool.not_true, Bool.not_false, Bool.not_eq_true', Bool.not_eq_false', beq_iff_eq, bne_iff_ne, beq_eq_false_iff_ne, bne_eq_false_iff_eq, ne_eq, Bool.false_eq_true, reduceCtorEq] at h))
            | (refine hK _ ?_; clear hK K Q1)
            | (refine ⟨by first | omega | (simp only [List.length_map, List.length_append, List.length_cons, List.length_nil, List.length_replicate, List.length_drop, List.length_take]; omega), by unfold maxLen; first | omega | (simp only [List.length_map, List.length_append, List.length_cons, List.length_nil, List.length_replicate, List.length_drop, List.length_take]; omega), ?_⟩)
            | (refine hK _ _ rfl ?_; clear hK K; try refine go1 ?_)
            | (refine am_retP rfl ?_ rfl; first | refine go ?_ | rfl)
            | (refine am_retC [] rfl ?_ rfl rfl; first | refine go ?_ | rfl)
            | (refine wkq ?_)
            | (refine am_rs tabOk kOk rfl fun K Q1 hK => ?_; refine go1 ?_)
            | (refine am_ds mixed tabOk kOk rfl rfl fun K hK => ?_; refine go1 ?_)
            | (refine am_dreg mixed tabOk kOk rfl rfl fun K hK => ?_; refine go1 ?_)
          all_goals (refine amR_tidy [(1, 1), (2, 2), (3, 3), (4, 4), (5, 5)] [2, 3, 5, 6] 6 rfl ?_; refine go1 ?_; exact ih (k + 1) (by omega) (by omega))
        · rw [if_neg hee] at hf
          obtain rfl : k = c := by omega
          obtain ⟨ta, ⟨aa, ba, oa, xa, ya, za⟩⟩ := e
          obtain ⟨tb, ⟨ab, bb, ob, xb, yb, zb⟩⟩ := e'
          simp only [Ent.tr] at hp
          have hne : (ta == tb && (aa == ab && (ba == bb && (oa == ob && (xa == xb && (ya == yb && za == zb)))))) = false := by
            rw [Bool.eq_false_iff]
            intro h
            simp only [Bool.and_eq_true, beq_iff_eq, bbIff] at h
            obtain ⟨rfl, rfl, rfl, rfl, rfl, rfl, rfl⟩ := h
            exact hee rfl
          replace hp := And.intro hp hne
          refine amR_succ ?_
          repeat' (fail_if_success (with_reducible apply amR_id)); first
            | (refine guardP_mk (fun h => ?_) (fun h => ?_) <;> (refine go1 ?_; try simp only [decide_eq_true_eq, decide_eq_false_iff_not, Bool.not_true, Bool.not_false, Bool.not_eq_true', Bool.not_eq_false', beq_iff_eq, bne_iff_ne, beq_eq_false_iff_ne, bne_eq_false_iff_eq, ne_eq, Bool.false_eq_true, reduceCtorEq] at h))
            | (refine hK _ ?_; clear hK K Q1)
            | (refine ⟨by first | omega | (simp only [List.length_map, List.length_append, List.length_cons, List.length_nil, List.length_replicate, List.length_drop, List.length_take]; omega), by unfold maxLen; first | omega | (simp only [List.length_map, List.length_append, List.length_cons, List.length_nil, List.length_replicate, List.length_drop, List.length_take]; omega), ?_⟩)
            | (refine hK _ _ rfl ?_; clear hK K; try refine go1 ?_)
            | (refine am_retP rfl ?_ rfl; first | refine go ?_ | rfl)
            | (refine am_retC [] rfl ?_ rfl rfl; first | refine go ?_ | rfl)
            | (refine wkq ?_)
            | (refine am_rs tabOk kOk rfl fun K Q1 hK => ?_; refine go1 ?_)
            | (refine am_ds mixed tabOk kOk rfl rfl fun K hK => ?_; refine go1 ?_)
            | (refine am_dreg mixed tabOk kOk rfl rfl fun K hK => ?_; refine go1 ?_)
          all_goals (refine hKC _ [(1, 1), (2, 2), (3, 3), (4, 4), (5, 5)] [2, 3, 5, 6] 6 rfl ?_; first | rfl | (refine go ?_; rfl))
    · obtain ⟨J, hJ⟩ : ∃ J, J = H ++ cutL ⟨t, v, l⟩ c := ⟨_, rfl⟩
      rw [← hJ]
      have hJl : J.length ≤ 2 := by rw [hJ, List.length_append]; unfold cutL; split <;> simp <;> omega
      by_cases hq : c < l.length
      case' pos =>
        have hp := (show ((c : Int) < (l.length : Int)) = True ∧ (H.length + 1 ≤ maxLen) = True ∧ ((H.length + 1) * 112 ≤ 140737488355328) = True ∧ (H.map Rec.tr).take H.length = H.map Rec.tr ∧ (H.map Rec.tr).length = H.length ∧ (c ≤ l'.length) = True from ⟨eq_true (by omega), eq_true (by unfold maxLen; omega), eq_true (by omega), List.take_of_length_le (by simp), by simp, eq_true hcl.2⟩)
        refine wk1 ?_
        refine am_tidy [(1, 1), (2, 2), (7, 3)] [5, 6, 66, 67, 68] 4 rfl ?_
        refine go1 ?_
        have hJ2 : J = H ++ [⟨3, 0, 0, ((c : Nat) : Int), noEnt⟩] := by rw [hJ]; simp only [cutL, if_pos hq]
      case' neg =>
        have hp := (show ((c : Int) < (l.length : Int)) = False ∧ (c ≤ l'.length) = True from ⟨eq_false (by omega), eq_true hcl.2⟩)
        refine wk1 ?_
        refine am_tidy [(1, 1), (2, 2), (5, 3)] [5, 6, 66, 67, 68] 4 rfl ?_
        refine go1 ?_
        have hJ2 : J = H := by rw [hJ]; simp only [cutL, if_neg hq, List.append_nil]
      all_goals
        clear hp
        refine am_st ⟨[(5, .c (.own 3 0 J.length)), (6, int (c : Nat)), (66, .c (.own 2 c (l'.length - c))), (67, int ((l'.length - c : Nat) : Int)), (68, int 0)], [(1, .arr 87 7 (l.map Ent.tr)), (2, .arr 87 7 (l'.map Ent.tr)), (3, .arr 89 11 (J.map Rec.tr))], 4⟩ (by rw [hJ2]; try simp [Rec.tr, noEnt]) ?_
        clear hJ2 hJ
        refine am_loop (l'.length - c + 1) ?_
        suffices key : ∀ (d i : Nat), i + d = l'.length - c → amR Try.prog _ _ _ (d + 1) ⟨[(5, .c (.own 3 0 (J ++ addT l' c (c + i)).length)), (6, int (c : Nat)), (66, .c (.own 2 c (l'.length - c))), (67, int ((l'.length - c : Nat) : Int)), (68, int (i : Nat))], [(1, .arr 87 7 (l.map Ent.tr)), (2, .arr 87 7 (l'.map Ent.tr)), (3, .arr 89 11 ((J ++ addT l' c (c + i)).map Rec.tr))], 4⟩ from by
          refine amR_st ?_ (key (l'.length - c) 0 (by omega))
          simp [addT_zero]
        intro d
        induction d with
        | zero =>
          intro i hi
          have hi2 : c + i = l'.length := by omega
          rw [hi2, addT_all]
          have hp := (show ((i : Int) < ((l'.length - c : Nat) : Int)) = False from eq_false (by omega))
          refine amR_succ ?_
          refine wk1 ?_
          refine am_retB [(1, 1), (2, 2), (3, 3)] rfl ?_ ?_ rfl <;> first | refine go ?_ | rfl
        | succ d ih =>
          intro i hi
          obtain ⟨e, he⟩ : ∃ e, l'[c + i]? = some e := ⟨l'[c + i]'(by omega), List.getElem?_eq_getElem (by omega)⟩
          have ihk := ih (i + 1) (by omega)
          rw [← Nat.add_assoc, addT_succ he (by omega)] at ihk
          have hXl : (J ++ addT l' c (c + i)).length ≤ 1048580 := by rw [List.length_append, addT_len (by omega)]; omega
          rw [← List.append_assoc] at ihk
          clear ih
          generalize J ++ addT l' c (c + i) = X at hXl ihk ⊢
          have hp := (show ((i : Int) < ((l'.length - c : Nat) : Int)) = True ∧ (i < l'.length - c) = True ∧ (l'.map Ent.tr)[c + i]? = some e.tr ∧ IntKind.i64.wrap ((i : Int) + 1) = ((i + 1 : Nat) : Int) ∧ IntKind.i64.wrap ((c : Int) + (i : Int)) = ((c + i : Nat) : Int) ∧ IntKind.i64.wrap (((c + i : Nat) : Int) + 1) = ((c + i + 1 : Nat) : Int) ∧ (X.length + 1 ≤ maxLen) = True ∧ ((X.length + 1) * 112 ≤ 140737488355328) = True ∧ (X.map Rec.tr).take X.length = X.map Rec.tr ∧ (X.map Rec.tr).length = X.length from
            ⟨eq_true (by omega), eq_true (by omega), by rw [List.getElem?_map, he]; rfl, by rw [wrapN (by omega) (by omega)]; rfl, by rw [wrapN (by omega) (by omega)]; rfl, by rw [wrapN (by omega) (by omega)]; rfl, eq_true (by unfold maxLen; omega), eq_true (by omega), List.take_of_length_le (by simp), by simp⟩)
          obtain ⟨ta, ⟨aa, ba, oa, xa, ya, za⟩⟩ := e
          simp only [Ent.tr] at hp
          refine amR_succ ?_
          refine wk1 ?_
          refine amR_tidy [(1, 1), (2, 2), (6, 3)] [5, 6, 66, 67, 68] 4 rfl ?_
          refine go1 ?_
          refine amR_st ?_ ihk
          simp [Rec.tr]
end Go.Proofs.YtaolgdpkcbfocaaA
