/- Tables: well-formed. -/
import Derived.Test.YthnpbfljoghbmaaCTab
import Derived.Test.YthnpbfljoghbmaaCCm
namespace Go.Proofs.YthnpbfljoghbmaaA
open Go.Proofs
set_option autoImplicit false
set_option linter.unusedVariables false
set_option linter.unusedSimpArgs false
set_option maxRecDepth 4000
def leT (a b : ByteArray) : Bool := Op.bytesLess a.toList b.toList || decide (a = b)
def psF : List Pr → ByteArray → Bool
  | [], _ => true
  | p :: l, last => !leT p.k last && decide (p.k.size ≤ 64) && decide (p.v.size ≤ 64) && psF l p.k
def s1F (s : Ss) : Bool := decide (s.cl ≤ 8) && inB s.sq 1 1073741824 && inB s.co 1 4 && decide (s.v.size ≤ 64)
def ssF : List Ss → Int → Bool
  | [], _ => true
  | s :: l, c => decide (c < s.cl) && s1F s && ssF l s.cl
def tbF (ps : List Pr) (ss : List Ss) : Bool := decide (ps.length ≤ 256) && psF ps ⟨#[]⟩ && ssF ss 0
theorem psF_drop {l : List Pr} {i : Nat} {p : Pr} {last : ByteArray} (h : l[i]? = some p) : psF (l.drop i) last = (!leT p.k last && decide (p.k.size ≤ 64) && decide (p.v.size ≤ 64) && psF (l.drop (i + 1)) p.k) := by
  have hi := (List.getElem?_eq_some_iff.1 h).1
  have e : l[i] = p := by rw [List.getElem?_eq_getElem hi] at h; exact Option.some.inj h
  rw [List.drop_eq_getElem_cons hi, psF, e]
theorem ssF_drop {l : List Ss} {i : Nat} {s : Ss} {c : Int} (h : l[i]? = some s) : ssF (l.drop i) c = (decide (c < s.cl) && s1F s && ssF (l.drop (i + 1)) s.cl) := by
  have hi := (List.getElem?_eq_some_iff.1 h).1
  have e : l[i] = s := by rw [List.getElem?_eq_getElem hi] at h; exact Option.some.inj h
  rw [List.drop_eq_getElem_cons hi, ssF, e]
set_option maxHeartbeats 32000000 in
theorem tbI_tc (ps : List Pr) (ss : List Ss) (hl : ps.length ≤ 1048576) (hw : ss.length ≤ 1048576) : TC Try.prog 130 [.agg [.t (.sl 2 (ps.map Pr.tr)), .t (.sl 4 (ss.map Ss.tr))]] [] 1 (bool (tbF ps ss)) [] 1 := by
  refine tc_intro Try.func130 rfl 76 rfl (Nat.le_of_ble_eq_true rfl) (by decide) [2] rfl (by intro id x h; cases h) ?_
  intro w0 E0
  have kOk := k2
  by_cases c2 : ps.length ≤ 256
  rotate_left
  · have e : tbF ps ss = false := by simp [tbF, c2]
    rw [e]
    have hp := (show (ps.map Pr.tr).length = ps.length ∧ ((ps.length : Int) > 256) = True from ⟨by simp, eq_true (by omega)⟩)
    refine wk1 ?_
    refine am_retP rfl ?_ rfl
    first | rfl | (refine go ?_; rfl)
  have eb : tbF ps ss = (psF ps ⟨#[]⟩ && ssF ss 0) := by simp [tbF, c2]
  rw [eb]
  have hp := (show (ps.map Pr.tr).length = ps.length ∧ ((ps.length : Int) > 256) = False from ⟨by simp, eq_false (by omega)⟩)
  refine wk1 ?_
  refine am_tidy [(1, 1)] [1, 3, 14, 15, 16] 2 rfl ?_
  refine go1 ?_
  clear hp
  refine am_loop (ps.length + 1) ?_
  suffices key : ∀ (d k : Nat) (last : ByteArray), k + d = ps.length → psF (ps.drop k) last = psF ps ⟨#[]⟩ → amR Try.prog _ _ _ (d + 1) ⟨[(1, .c (.ptr 1 0)), (3, str last), (14, ro 2 (ps.map Pr.tr)), (15, int (ps.length : Nat)), (16, int (k : Nat))], [(1, .cells [.t (.sl 2 (ps.map Pr.tr)), .t (.sl 4 (ss.map Ss.tr))])], 2⟩ from key ps.length 0 ⟨#[]⟩ (by simp) rfl
  intro d
  induction d with
  | zero =>
    intro k last hk hf
    rw [List.drop_eq_nil_of_le (by omega), psF] at hf
    rw [← hf, Bool.true_and]
    have hp := (show ((k : Int) < (ps.length : Int)) = False ∧ (ss.map Ss.tr).length = ss.length from ⟨eq_false (by omega), by simp⟩)
    refine amR_succ ?_
    refine wk1 ?_
    refine am_tidy [] [6, 40, 41, 42] 1 rfl ?_
    refine go1 ?_
    clear hp
    refine am_loop (ss.length + 1) ?_
    suffices key2 : ∀ (d j : Nat) (c : Int), j + d = ss.length → ssF (ss.drop j) c = ssF ss 0 → amR Try.prog _ _ _ (d + 1) ⟨[(6, int c), (40, ro 4 (ss.map Ss.tr)), (41, int (ss.length : Nat)), (42, int (j : Nat))], [], 1⟩ from key2 ss.length 0 0 (by simp) rfl
    intro d
    induction d with
    | zero =>
      intro j c hj hg
      rw [List.drop_eq_nil_of_le (by omega), ssF] at hg
      rw [← hg]
      have hp := (show ((j : Int) < (ss.length : Int)) = False from eq_false (by omega))
      refine amR_succ ?_
      refine wk1 ?_
      refine am_retP rfl ?_ rfl
      first | rfl | (refine go ?_; rfl)
    | succ d ih =>
      intro j c hj hg
      obtain ⟨s, hs⟩ : ∃ e, ss[j]? = some e := ⟨ss[j]'(by omega), List.getElem?_eq_getElem (by omega)⟩
      rw [ssF_drop hs] at hg
      have hp := (show ((j : Int) < (ss.length : Int)) = True ∧ (j < ss.length) = True ∧ (ss.map Ss.tr)[j]? = some s.tr ∧ IntKind.i64.wrap ((j : Int) + 1) = ((j + 1 : Nat) : Int) from
        ⟨eq_true (by omega), eq_true (by omega), by rw [List.getElem?_map, hs]; rfl, by rw [wrapN (by omega) (by omega)]; rfl⟩)
      obtain ⟨a, q, o, v⟩ := s
      simp only [Ss.tr] at hp
      simp only [s1F] at hg
      refine amR_succ ?_
      repeat' (fail_if_success (with_reducible apply amR_id)); first
        | (refine guardP_mk (fun h => ?_) (fun h => ?_) <;> (refine go1 ?_; try simp only [decide_eq_true_eq, decide_eq_false_iff_not, Bool.not_true, Bool.not_false, Bool.not_eq_true', Bool.not_eq_false', beq_iff_eq, bne_iff_ne, beq_eq_false_iff_ne, bne_eq_false_iff_eq, ne_eq, Bool.false_eq_true, reduceCtorEq] at h))
        | (refine hK _ ?_; clear hK K Q1)
        | (refine ⟨by first | omega | (simp only [List.length_map, List.length_append, List.length_cons, List.length_nil, List.length_replicate, List.length_drop, List.length_take]; omega), by unfold maxLen; first | omega | (simp only [List.length_map, List.length_append, List.length_cons, List.length_nil, List.length_replicate, List.length_drop, List.length_take]; omega), ?_⟩)
        | (refine hK _ _ rfl ?_; clear hK K; try refine go1 ?_)
        | (refine am_retP rfl ?_ rfl; first | refine go ?_ | rfl)
        | (refine am_retC [] rfl ?_ rfl rfl; first | refine go ?_ | rfl)
        | (refine wkq ?_)
        | (refine am_rs tabOk kOk rfl fun K Q1 hK => ?_; refine go1 ?_)
        | (refine am_reg tabOk kOk rfl fun K Q1 hK => ?_; refine go1 ?_)
        | (refine am_ds mixed tabOk kOk rfl rfl fun K hK => ?_; refine go1 ?_)
        | (refine am_dreg mixed tabOk kOk rfl rfl fun K hK => ?_; refine go1 ?_)
      all_goals try (refine amR_tidy [] [6, 40, 41, 42] 1 rfl ?_; refine go1 ?_; refine ih (j + 1) _ ?_ ?_)
      all_goals first | omega | (clear ih hp; simp only [TV.c.injEq, CV.t.injEq, Tree.v.injEq, Value.bool.injEq]; grind) | (clear ih hp; grind) | (clear ih hp)
  | succ d ih =>
    intro k last hk hf
    obtain ⟨p, hpk⟩ : ∃ e, ps[k]? = some e := ⟨ps[k]'(by omega), List.getElem?_eq_getElem (by omega)⟩
    rw [psF_drop hpk] at hf
    have hp := (show ((k : Int) < (ps.length : Int)) = True ∧ (k < ps.length) = True ∧ (ps.map Pr.tr)[k]? = some p.tr ∧ IntKind.i64.wrap ((k : Int) + 1) = ((k + 1 : Nat) : Int) from
      ⟨eq_true (by omega), eq_true (by omega), by rw [List.getElem?_map, hpk]; rfl, by rw [wrapN (by omega) (by omega)]; rfl⟩)
    obtain ⟨a, v⟩ := p
    simp only [Pr.tr] at hp
    simp only [leT] at hf
    refine amR_succ ?_
    repeat' (fail_if_success (with_reducible apply amR_id)); first
      | (refine guardP_mk (fun h => ?_) (fun h => ?_) <;> (refine go1 ?_; try simp only [decide_eq_true_eq, decide_eq_false_iff_not, Bool.not_true, Bool.not_false, Bool.not_eq_true', Bool.not_eq_false', beq_iff_eq, bne_iff_ne, beq_eq_false_iff_ne, bne_eq_false_iff_eq, ne_eq, Bool.false_eq_true, reduceCtorEq] at h))
      | (refine hK _ ?_; clear hK K Q1)
      | (refine ⟨by first | omega | (simp only [List.length_map, List.length_append, List.length_cons, List.length_nil, List.length_replicate, List.length_drop, List.length_take]; omega), by unfold maxLen; first | omega | (simp only [List.length_map, List.length_append, List.length_cons, List.length_nil, List.length_replicate, List.length_drop, List.length_take]; omega), ?_⟩)
      | (refine hK _ _ rfl ?_; clear hK K; try refine go1 ?_)
      | (refine am_retP rfl ?_ rfl; first | refine go ?_ | rfl)
      | (refine am_retC [] rfl ?_ rfl rfl; first | refine go ?_ | rfl)
      | (refine am_retB [(1, 1)] rfl ?_ ?_ rfl <;> first | refine go ?_ | rfl)
      | (refine wkq ?_)
      | (refine am_rs tabOk kOk rfl fun K Q1 hK => ?_; refine go1 ?_)
      | (refine am_reg tabOk kOk rfl fun K Q1 hK => ?_; refine go1 ?_)
      | (refine am_ds mixed tabOk kOk rfl rfl fun K hK => ?_; refine go1 ?_)
      | (refine am_dreg mixed tabOk kOk rfl rfl fun K hK => ?_; refine go1 ?_)
    all_goals try (refine amR_tidy [(1, 1)] [1, 3, 14, 15, 16] 2 rfl ?_; refine go1 ?_; refine ih (k + 1) _ ?_ ?_)
    all_goals first | omega | (clear ih hp; simp only [TV.c.injEq, CV.t.injEq, Tree.v.injEq, Value.bool.injEq]; grind) | (clear ih hp; grind) | (clear ih hp)
end Go.Proofs.YthnpbfljoghbmaaA
