/- Tables: well-formed, as the reference has it. -/
import Derived.Test.YthnpbfljoghbmaaCWf
import Derived.Test.YthnpbfljoghbmaaFMark
namespace Go.Proofs.YthnpbfljoghbmaaA
open Go.Proofs
set_option autoImplicit false
set_option linter.unusedVariables false
set_option linter.unusedSimpArgs false
set_option maxRecDepth 4000
def Ss.cv (s : Ss) : List CV := [ci s.cl, ci s.sq, ci s.co, cs s.v]
def Pr.cv (p : Pr) : List CV := [cs p.k, cs p.v]
def unSs : List CV → Option Ss
  | [.t (.v (.int .i64 a)), .t (.v (.int .i64 b)), .t (.v (.int .i64 o)), .t (.v (.string z))] => some ⟨a, b, o, z⟩
  | _ => none
theorem unSs_ok {xs : List CV} {c : Ss} (h : unSs xs = some c) : xs = c.cv := by
  unfold unSs at h
  split at h
  · cases h; rfl
  · cases h
def unPr : List CV → Option Pr
  | [.t (.v (.string x)), .t (.v (.string z))] => some ⟨x, z⟩
  | _ => none
theorem unPr_ok {xs : List CV} {c : Pr} (h : unPr xs = some c) : xs = c.cv := by
  unfold unPr at h
  split at h
  · cases h; rfl
  · cases h
attribute [go_sem] unSs unPr
def s1S (s : Ss) : Bool := inB s.cl 1 8 && inB s.sq 1 1073741824 && inB s.co 1 4 && decide (s.v.size ≤ 64)
theorem s1S_tc (s : Ss) : TC Try.prog 157 [.agg s.cv] [] 1 (bool (s1S s)) [] 1 := by
  refine tc_intro Try.func157 rfl 22 rfl (Nat.le_of_ble_eq_true rfl) (by decide) [2] rfl (by intro id x h; cases h) ?_
  intro w0 E0
  have kOk := k2
  obtain ⟨a, q, o, v⟩ := s
  simp only [Ss.cv]
  repeat' (fail_if_success (with_reducible apply amR_id)); first
    | (refine guardP_mk (fun h => ?_) (fun h => ?_) <;> (refine go ?_; try simp only [decide_eq_true_eq, decide_eq_false_iff_not, Bool.not_true, Bool.not_false, Bool.not_eq_true', Bool.not_eq_false', beq_iff_eq, bne_iff_ne, beq_eq_false_iff_ne, bne_eq_false_iff_eq, ne_eq, Bool.false_eq_true, reduceCtorEq] at h))
    | (refine hK _ ?_; clear hK K Q1)
    | (refine ⟨by first | omega | (simp only [List.length_map, List.length_append, List.length_cons, List.length_nil, List.length_replicate, List.length_drop, List.length_take]; omega), by unfold maxLen; first | omega | (simp only [List.length_map, List.length_append, List.length_cons, List.length_nil, List.length_replicate, List.length_drop, List.length_take]; omega), ?_⟩)
    | (refine hK _ _ rfl ?_; clear hK K; try refine go ?_)
    | (refine am_retP rfl ?_ rfl; first | refine go ?_ | rfl)
    | (refine am_retC [] rfl ?_ rfl rfl; first | refine go ?_ | rfl)
    | (refine wkp ?_)
    | (refine am_rs tabOk kOk rfl fun K Q1 hK => ?_; refine go ?_)
    | (refine am_reg tabOk kOk rfl fun K Q1 hK => ?_; refine go ?_)
    | (refine am_ds mixed tabOk kOk rfl rfl fun K hK => ?_; refine go ?_)
    | (refine am_dreg mixed tabOk kOk rfl rfl fun K hK => ?_; refine go ?_)
  all_goals (simp only [TV.c.injEq, CV.t.injEq, Tree.v.injEq, Value.bool.injEq, s1S]; grind)
def kt1_0_1 (s : Ss) : Option TV := some (bool (s1S s))
def kt1_0_0 (r0 : List CV) : Option TV := (unSs r0).bind (kt1_0_1)
def kt1_0 : List TV → Option TV
  | [.agg r0] => kt1_0_0 r0
  | _ => none
def kt1_call (f : FuncId) (args : List TV) : Option TV := if f = 157 then orO (kt1_0 args) (kn13.call f args) else kn13.call f args
def kt1 : Kn := { call := kt1_call, eqs := eqTys, callB := kn13.callB }
attribute [go_sem] kt1_0_0 kt1_0_1 kt1_0 kt1_call kt1
theorem kt1_ok : ∀ f args res, kt1_call f args = some res → TC Try.prog f args [] 1 res [] 1 := by
  intro f args res h
  unfold kt1_call at h
  split at h
  · rename_i e; subst e
    have hh := orO_elim h
    clear h
    rcases hh with h | h
    rotate_left
    · exact k13.call _ _ _ h
    unfold kt1_0 at h
    split at h
    · rename_i r0; unfold kt1_0_0 at h
      obtain ⟨s, e0, h⟩ := Option.bind_eq_some_iff.1 h
      unfold kt1_0_1 at h
      cases h; rw [unSs_ok e0]; exact s1S_tc s
    · cases h
  · exact k13.call f args res h
theorem kT1 : KnOk Try.prog kt1 := ⟨kt1_ok, eqTysOk, k13.callB⟩
theorem leT_zero {a b : ByteArray} (h : a.size = 0) : leT a b = true := by
  obtain ⟨⟨x⟩⟩ := a
  obtain ⟨⟨y⟩⟩ := b
  have : x = [] := List.eq_nil_of_length_eq_zero (by simpa [ByteArray.size] using h)
  subst this
  unfold leT
  rw [ByteArray.toList_eq, ByteArray.toList_eq]
  cases y with
  | nil => simp
  | cons c y => simp [Op.bytesLess]
theorem leT_empty {a : ByteArray} : leT a ⟨#[]⟩ = decide (a.size = 0) := by
  obtain ⟨⟨x⟩⟩ := a
  unfold leT
  rw [ByteArray.toList_eq, ByteArray.toList_eq]
  cases x with
  | nil => rfl
  | cons c x => simp [Op.bytesLess, ByteArray.size]
set_option maxHeartbeats 32000000 in
theorem tbS_tc (ps : List Pr) (ss : List Ss) (hl : ps.length ≤ 1048576) (hw : ss.length ≤ 1048576) : TC Try.prog 125 [.agg [.t (.sl 2 (ps.map Pr.tr)), .t (.sl 4 (ss.map Ss.tr))]] [] 1 (bool (tbF ps ss)) [] 1 := by
  refine tc_intro Try.func125 rfl 87 rfl (Nat.le_of_ble_eq_true rfl) (by decide) [2] rfl (by intro id x h; cases h) ?_
  intro w0 E0
  have kOk := kT1
  by_cases c2 : ps.length ≤ 256
  rotate_left
  · have e : tbF ps ss = false := by simp [tbF, c2]
    rw [e]
    have hp := (show (ps.map Pr.tr).length = ps.length ∧ ((ps.length : Int) > 256) = True from ⟨by simp, eq_true (by omega)⟩)
    refine wk1 ?_
    refine am_retP rfl ?_ rfl
    first | rfl | (refine go ?_; rfl)
  have eb : tbF ps ss = (psF ps ⟨#[]⟩ && ssF ss 0) := by simp [tbF, c2]
  rw [eb]
  have hp := (show (ps.map Pr.tr).length = ps.length ∧ ((ps.length : Int) > 256) = False from ⟨by simp, eq_false (by omega)⟩)
  refine wk1 ?_
  refine am_tidy [(1, 1)] [1, 3] 2 rfl ?_
  refine go1 ?_
  clear hp
  refine am_loop (ps.length + 1) ?_
  suffices key : ∀ (d k : Nat) (last : ByteArray), k + d = ps.length → (k = 0 → last = ⟨#[]⟩) → (∀ j e, k = j + 1 → ps[j]? = some e → e.k = last) → psF (ps.drop k) last = psF ps ⟨#[]⟩ → amR Try.prog _ _ _ (d + 1) ⟨[(1, .c (.ptr 1 0)), (3, int (k : Nat))], [(1, .cells [.t (.sl 2 (ps.map Pr.tr)), .t (.sl 4 (ss.map Ss.tr))])], 2⟩ from key ps.length 0 ⟨#[]⟩ (by simp) (fun _ => rfl) (fun j e h => by omega) rfl
  intro d
  induction d with
  | zero =>
    intro k last hk _ _ hf
    rw [List.drop_eq_nil_of_le (by omega), psF] at hf
    rw [← hf, Bool.true_and]
    have hp := (show (ps.map Pr.tr).length = ps.length ∧ ((k : Int) < (ps.length : Int)) = False from ⟨by simp, eq_false (by omega)⟩)
    refine amR_succ ?_
    refine wk1 ?_
    refine am_tidy [(1, 1)] [1, 4] 2 rfl ?_
    refine go1 ?_
    clear hp
    refine am_loop (ss.length + 1) ?_
    suffices key2 : ∀ (d j : Nat) (c : Int), j + d = ss.length → (j = 0 → c = 0) → (∀ i e, j = i + 1 → ss[i]? = some e → e.cl = c) → ssF (ss.drop j) c = ssF ss 0 → 0 ≤ c → amR Try.prog _ _ _ (d + 1) ⟨[(1, .c (.ptr 1 0)), (4, int (j : Nat))], [(1, .cells [.t (.sl 2 (ps.map Pr.tr)), .t (.sl 4 (ss.map Ss.tr))])], 2⟩ from key2 ss.length 0 0 (by simp) (fun _ => rfl) (fun j e h => by omega) rfl (by omega)
    intro d
    induction d with
    | zero =>
      intro j c hj _ _ hg _
      rw [List.drop_eq_nil_of_le (by omega), ssF] at hg
      rw [← hg]
      have hp := (show (ss.map Ss.tr).length = ss.length ∧ ((j : Int) < (ss.length : Int)) = False from ⟨by simp, eq_false (by omega)⟩)
      refine amR_succ ?_
      refine wk1 ?_
      refine am_retP rfl ?_ rfl
      first | rfl | (refine go ?_; rfl)
    | succ d ih =>
      intro j c hj h0 h1 hg hc
      obtain ⟨s, hs⟩ : ∃ e, ss[j]? = some e := ⟨ss[j]'(by omega), List.getElem?_eq_getElem (by omega)⟩
      rw [ssF_drop hs] at hg
      refine amR_succ ?_
      cases j with
      | zero =>
        have hp := (show (ss.map Ss.tr).length = ss.length ∧ (((0 : Nat) : Int) < (ss.length : Int)) = True ∧ ((0 : Int) < (ss.length : Int)) = True ∧ (0 < ss.length) = True ∧ (ss.map Ss.tr)[0]? = some s.tr ∧ Int.toNat 0 = 0 ∧ ((0 : Nat) : Int) = 0 ∧ IntKind.i64.wrap (0 + 1) = ((1 : Nat) : Int) ∧ ((0 : Int) > 0) = False from
          ⟨by simp, eq_true (by omega), eq_true (by omega), eq_true (by omega), by rw [List.getElem?_map, hs]; rfl, rfl, rfl, rfl, by simp⟩)
        have hlo := h0 rfl
        have h2 : ∀ i e', 0 + 1 = i + 1 → ss[i]? = some e' → e'.cl = s.cl := fun i e' h3 h4 => by
          obtain rfl : i = 0 := by omega
          rw [hs] at h4; cases h4; rfl
        obtain ⟨a, q, o, v⟩ := s
        simp only [Ss.tr] at hp
        simp only [s1F] at hg
        repeat' (fail_if_success (with_reducible apply amR_id)); first
          | (refine guardP_mk (fun h => ?_) (fun h => ?_) <;> (refine go1 ?_; try simp only [decide_eq_true_eq, decide_eq_false_iff_not, Bool.not_true, Bool.not_false, Bool.not_eq_true', Bool.not_eq_false', beq_iff_eq, bne_iff_ne, beq_eq_false_iff_ne, bne_eq_false_iff_eq, ne_eq, Bool.false_eq_true, reduceCtorEq] at h))
          | (refine hK _ ?_; clear hK K Q1)
          | (refine ⟨by first | omega | (simp only [List.length_map, List.length_append, List.length_cons, List.length_nil, List.length_replicate, List.length_drop, List.length_take]; omega), by unfold maxLen; first | omega | (simp only [List.length_map, List.length_append, List.length_cons, List.length_nil, List.length_replicate, List.length_drop, List.length_take]; omega), ?_⟩)
          | (refine hK _ _ rfl ?_; clear hK K; try refine go1 ?_)
          | (refine am_retP rfl ?_ rfl; first | refine go ?_ | rfl)
          | (refine am_retC [] rfl ?_ rfl rfl; first | refine go ?_ | rfl)
          | (refine am_retB [(1, 1)] rfl ?_ ?_ rfl <;> first | refine go ?_ | rfl)
          | (refine wkq ?_)
          | (refine am_rs tabOk kOk rfl fun K Q1 hK => ?_; refine go1 ?_)
          | (refine am_reg tabOk kOk rfl fun K Q1 hK => ?_; refine go1 ?_)
          | (refine am_ds mixed tabOk kOk rfl rfl fun K hK => ?_; refine go1 ?_)
          | (refine am_dreg mixed tabOk kOk rfl rfl fun K hK => ?_; refine go1 ?_)
        all_goals try (refine amR_tidy [(1, 1)] [1, 4] 2 rfl ?_; refine go1 ?_; refine ih 1 _ ?_ ?_ h2 ?_ ?_)
        all_goals (clear ih hp h1 h2; try simp only [s1S] at *)
        all_goals first | omega | (simp only [TV.c.injEq, CV.t.injEq, Tree.v.injEq, Value.bool.injEq]; grind [inB]) | grind [inB] | skip
      | succ j =>
        obtain ⟨s0, hs0⟩ : ∃ e, ss[j]? = some e := ⟨ss[j]'(by omega), List.getElem?_eq_getElem (by omega)⟩
        have hlo := h1 j s0 rfl hs0
        have hp := (show (ss.map Ss.tr).length = ss.length ∧ (((j + 1 : Nat) : Int) < (ss.length : Int)) = True ∧ (j + 1 < ss.length) = True ∧ (j < ss.length) = True ∧ (ss.map Ss.tr)[j + 1]? = some s.tr ∧ (ss.map Ss.tr)[j]? = some s0.tr ∧ IntKind.i64.wrap (((j + 1 : Nat) : Int) + 1) = ((j + 1 + 1 : Nat) : Int) ∧ IntKind.i64.wrap (((j + 1 : Nat) : Int) - 1) = (j : Int) ∧ (((j + 1 : Nat) : Int) > 0) = True from
          ⟨by simp, eq_true (by omega), eq_true (by omega), eq_true (by omega), by rw [List.getElem?_map, hs]; rfl, by rw [List.getElem?_map, hs0]; rfl, by rw [wrapN (by omega) (by omega)]; rfl, by rw [wrapN (by omega) (by omega)]; omega, eq_true (by omega)⟩)
        have h2 : ∀ i e', j + 1 + 1 = i + 1 → ss[i]? = some e' → e'.cl = s.cl := fun i e' h3 h4 => by
          obtain rfl : i = j + 1 := by omega
          rw [hs] at h4; cases h4; rfl
        obtain ⟨a, q, o, v⟩ := s
        obtain ⟨a0, q0, o0, v0⟩ := s0
        simp only [Ss.tr] at hp
        simp only [s1F] at hg
        repeat' (fail_if_success (with_reducible apply amR_id)); first
          | (refine guardP_mk (fun h => ?_) (fun h => ?_) <;> (refine go1 ?_; try simp only [decide_eq_true_eq, decide_eq_false_iff_not, Bool.not_true, Bool.not_false, Bool.not_eq_true', Bool.not_eq_false', beq_iff_eq, bne_iff_ne, beq_eq_false_iff_ne, bne_eq_false_iff_eq, ne_eq, Bool.false_eq_true, reduceCtorEq] at h))
          | (refine hK _ ?_; clear hK K Q1)
          | (refine ⟨by first | omega | (simp only [List.length_map, List.length_append, List.length_cons, List.length_nil, List.length_replicate, List.length_drop, List.length_take]; omega), by unfold maxLen; first | omega | (simp only [List.length_map, List.length_append, List.length_cons, List.length_nil, List.length_replicate, List.length_drop, List.length_take]; omega), ?_⟩)
          | (refine hK _ _ rfl ?_; clear hK K; try refine go1 ?_)
          | (refine am_retP rfl ?_ rfl; first | refine go ?_ | rfl)
          | (refine am_retC [] rfl ?_ rfl rfl; first | refine go ?_ | rfl)
          | (refine am_retB [(1, 1)] rfl ?_ ?_ rfl <;> first | refine go ?_ | rfl)
          | (refine wkq ?_)
          | (refine am_rs tabOk kOk rfl fun K Q1 hK => ?_; refine go1 ?_)
          | (refine am_reg tabOk kOk rfl fun K Q1 hK => ?_; refine go1 ?_)
          | (refine am_ds mixed tabOk kOk rfl rfl fun K hK => ?_; refine go1 ?_)
          | (refine am_dreg mixed tabOk kOk rfl rfl fun K hK => ?_; refine go1 ?_)
        all_goals try (refine amR_tidy [(1, 1)] [1, 4] 2 rfl ?_; refine go1 ?_; refine ih (j + 1 + 1) _ ?_ ?_ h2 ?_ ?_)
        all_goals (clear ih hp h1 h2; try simp only [s1S] at *)
        all_goals first | omega | (simp only [TV.c.injEq, CV.t.injEq, Tree.v.injEq, Value.bool.injEq]; grind [inB]) | grind [inB] | skip
  | succ d ih =>
    intro k last hk h0 h1 hf
    obtain ⟨p, hpk⟩ : ∃ e, ps[k]? = some e := ⟨ps[k]'(by omega), List.getElem?_eq_getElem (by omega)⟩
    rw [psF_drop hpk] at hf
    refine amR_succ ?_
    cases k with
    | zero =>
      have hp := (show (ps.map Pr.tr).length = ps.length ∧ ((0 : Int) < (ps.length : Int)) = True ∧ (0 < ps.length) = True ∧ (ps.map Pr.tr)[0]? = some p.tr ∧ Int.toNat 0 = 0 ∧ ((0 : Nat) : Int) = 0 ∧ IntKind.i64.wrap (0 + 1) = ((1 : Nat) : Int) ∧ ((0 : Int) > 0) = False from
        ⟨by simp, eq_true (by omega), eq_true (by omega), by rw [List.getElem?_map, hpk]; rfl, rfl, rfl, rfl, by simp⟩)
      have hlo := h0 rfl
      rw [hlo, leT_empty] at hf
      have h2 : ∀ i e', 0 + 1 = i + 1 → ps[i]? = some e' → e'.k = p.k := fun i e' h3 h4 => by
        obtain rfl : i = 0 := by omega
        rw [hpk] at h4; cases h4; rfl
      obtain ⟨a, v⟩ := p
      simp only [Pr.tr] at hp
      repeat' (fail_if_success (with_reducible apply amR_id)); first
        | (refine guardP_mk (fun h => ?_) (fun h => ?_) <;> (refine go1 ?_; try simp only [decide_eq_true_eq, decide_eq_false_iff_not, Bool.not_true, Bool.not_false, Bool.not_eq_true', Bool.not_eq_false', beq_iff_eq, bne_iff_ne, beq_eq_false_iff_ne, bne_eq_false_iff_eq, ne_eq, Bool.false_eq_true, reduceCtorEq] at h))
        | (refine hK _ ?_; clear hK K Q1)
        | (refine ⟨by first | omega | (simp only [List.length_map, List.length_append, List.length_cons, List.length_nil, List.length_replicate, List.length_drop, List.length_take]; omega), by unfold maxLen; first | omega | (simp only [List.length_map, List.length_append, List.length_cons, List.length_nil, List.length_replicate, List.length_drop, List.length_take]; omega), ?_⟩)
        | (refine hK _ _ rfl ?_; clear hK K; try refine go1 ?_)
        | (refine am_retP rfl ?_ rfl; first | refine go ?_ | rfl)
        | (refine am_retC [] rfl ?_ rfl rfl; first | refine go ?_ | rfl)
        | (refine am_retB [(1, 1)] rfl ?_ ?_ rfl <;> first | refine go ?_ | rfl)
        | (refine wkq ?_)
        | (refine am_rs tabOk kOk rfl fun K Q1 hK => ?_; refine go1 ?_)
        | (refine am_reg tabOk kOk rfl fun K Q1 hK => ?_; refine go1 ?_)
        | (refine am_ds mixed tabOk kOk rfl rfl fun K hK => ?_; refine go1 ?_)
        | (refine am_dreg mixed tabOk kOk rfl rfl fun K hK => ?_; refine go1 ?_)
      all_goals try (refine amR_tidy [(1, 1)] [1, 3] 2 rfl ?_; refine go1 ?_; refine ih 1 _ ?_ ?_ h2 ?_)
      all_goals (clear ih hp h1 h2)
      all_goals first | omega | (simp only [TV.c.injEq, CV.t.injEq, Tree.v.injEq, Value.bool.injEq]; grind [inB]) | grind [inB] | skip
    | succ k =>
      obtain ⟨p0, hp0⟩ : ∃ e, ps[k]? = some e := ⟨ps[k]'(by omega), List.getElem?_eq_getElem (by omega)⟩
      have hlo := h1 k p0 rfl hp0
      have hp := (show (ps.map Pr.tr).length = ps.length ∧ (((k + 1 : Nat) : Int) < (ps.length : Int)) = True ∧ (k + 1 < ps.length) = True ∧ (k < ps.length) = True ∧ (ps.map Pr.tr)[k + 1]? = some p.tr ∧ (ps.map Pr.tr)[k]? = some p0.tr ∧ IntKind.i64.wrap (((k + 1 : Nat) : Int) + 1) = ((k + 1 + 1 : Nat) : Int) ∧ IntKind.i64.wrap (((k + 1 : Nat) : Int) - 1) = (k : Int) ∧ (((k + 1 : Nat) : Int) > 0) = True from
        ⟨by simp, eq_true (by omega), eq_true (by omega), eq_true (by omega), by rw [List.getElem?_map, hpk]; rfl, by rw [List.getElem?_map, hp0]; rfl, by rw [wrapN (by omega) (by omega)]; rfl, by rw [wrapN (by omega) (by omega)]; omega, eq_true (by omega)⟩)
      have h2 : ∀ i e', k + 1 + 1 = i + 1 → ps[i]? = some e' → e'.k = p.k := fun i e' h3 h4 => by
        obtain rfl : i = k + 1 := by omega
        rw [hpk] at h4; cases h4; rfl
      have hz := leT_zero (a := p.k) (b := last)
      obtain ⟨a, v⟩ := p
      obtain ⟨a0, v0⟩ := p0
      simp only at hlo hf hz
      subst hlo
      simp only [Pr.tr] at hp
      repeat' (fail_if_success (with_reducible apply amR_id)); first
        | (refine guardP_mk (fun h => ?_) (fun h => ?_) <;> (refine go1 ?_; try simp only [decide_eq_true_eq, decide_eq_false_iff_not, Bool.not_true, Bool.not_false, Bool.not_eq_true', Bool.not_eq_false', beq_iff_eq, bne_iff_ne, beq_eq_false_iff_ne, bne_eq_false_iff_eq, ne_eq, Bool.false_eq_true, reduceCtorEq] at h))
        | (refine hK _ ?_; clear hK K Q1)
        | (refine ⟨by first | omega | (simp only [List.length_map, List.length_append, List.length_cons, List.length_nil, List.length_replicate, List.length_drop, List.length_take]; omega), by unfold maxLen; first | omega | (simp only [List.length_map, List.length_append, List.length_cons, List.length_nil, List.length_replicate, List.length_drop, List.length_take]; omega), ?_⟩)
        | (refine hK _ _ rfl ?_; clear hK K; try refine go1 ?_)
        | (refine am_retP rfl ?_ rfl; first | refine go ?_ | rfl)
        | (refine am_retC [] rfl ?_ rfl rfl; first | refine go ?_ | rfl)
        | (refine am_retB [(1, 1)] rfl ?_ ?_ rfl <;> first | refine go ?_ | rfl)
        | (refine wkq ?_)
        | (refine am_rs tabOk kOk rfl fun K Q1 hK => ?_; refine go1 ?_)
        | (refine am_reg tabOk kOk rfl fun K Q1 hK => ?_; refine go1 ?_)
        | (refine am_ds mixed tabOk kOk rfl rfl fun K hK => ?_; refine go1 ?_)
        | (refine am_dreg mixed tabOk kOk rfl rfl fun K hK => ?_; refine go1 ?_)
      all_goals try (refine amR_tidy [(1, 1)] [1, 3] 2 rfl ?_; refine go1 ?_; refine ih (k + 1 + 1) _ ?_ ?_ h2 ?_)
      all_goals (clear ih hp h1 h2; try simp only [leT] at *)
      all_goals first | omega | (simp only [TV.c.injEq, CV.t.injEq, Tree.v.injEq, Value.bool.injEq]; grind [inB]) | grind [inB] | skip
end Go.Proofs.YthnpbfljoghbmaaA
