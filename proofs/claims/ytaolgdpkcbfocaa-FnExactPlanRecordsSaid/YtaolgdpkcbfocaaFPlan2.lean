/- Records that lead from one state to another: both programs make the same ones. -/
import Derived.Test.YtaolgdpkcbfocaaFPlanM
namespace Go.Proofs.YtaolgdpkcbfocaaA
open Go.Proofs
set_option autoImplicit false
set_option linter.unusedVariables false
set_option linter.unusedSimpArgs false
set_option maxRecDepth 4000
@[go_sem] theorem one_le_max : (1 ≤ maxLen) = True := by simp [maxLen]
@[go_sem] theorem le_selfP (n : Nat) : (n ≤ n) = True := by simp
theorem bbIff (x y : ByteArray) : (x == y) = true ↔ x = y := by
  rw [beq_toListBytes, ByteArray.toList_eq, ByteArray.toList_eq]
  obtain ⟨⟨a⟩⟩ := x
  obtain ⟨⟨b⟩⟩ := y
  simp
theorem dom2 {o p : AObj} (id : Nat) (x : AObj) (h : look id [(1, o), (2, p)] = some x) : id < 3 := by
  simp only [look] at h
  split at h
  · omega
  · split at h
    · omega
    · cases h
theorem am_st {P : Program} {C : Ctx} {Q : Exit → St → Prop} {st : St} {c : Code} (st' : St) (he : st = st') (h : am P C c Q st') : am P C c Q st := he ▸ h
theorem amR_st {P : Program} {C : Ctx} {Q : Exit → St → Prop} {st st' : St} {c : Code} {n : Nat} (he : st' = st) (h : amR P C c Q n st') : amR P C c Q n st := he ▸ h
/-- A loop, and what comes behind it from one state. -/
theorem am_cut {P : Program} {C : Ctx} {Q : Exit → St → Prop} {st : St} {x z : Code} {id : Nat} (st1 : St) (hz : am P C z Q st1)
    (hx : ∀ K : St → Prop, (∀ (st' : St) (ρ : List (Nat × Nat)) (ts : List Nat) (N : Nat), tidyOk C.n0 ρ N = true → st'.tidy ρ ts N = st1 → K st') → am P C x (blockQ id (thenQ K Q)) st) : am P C x (blockQ id (thenQ (am P C z Q) Q)) st :=
  hx _ fun st' ρ ts N hok he => am_tidy ρ ts N hok (by rw [he]; exact hz)
def fitR (s : Stb) (r : Rec) : Bool := decide (r.te > s.term ∨ r.te = s.term ∧ (s.vote = 0 ∨ s.vote = r.vo))
theorem fits_tc (s : Stb) (r : Rec) (h : r.kd = 1) : TC Try.prog 42 [.agg s.cv, .agg r.cv] [] 1 (bool (fitR s r)) [] 1 := by
  refine tc_intro Try.func42 rfl 67 rfl (Nat.le_of_ble_eq_true rfl) (by decide) [4] rfl (by intro id x h; cases h) ?_
  intro w0 E0
  have kOk := k40
  obtain ⟨t, v, l⟩ := s
  obtain ⟨kd, te, vo, ix, ⟨k, ⟨a, q, o, x, y, z⟩⟩⟩ := r
  have hp : kd = 1 ∧ (l.map Ent.tr).length = l.length ∧ ((1 : Int) == 1) = true := ⟨h, by simp, by simp⟩
  simp only [Stb.cv, Rec.cv, Cm.cv]
  repeat' (fail_if_success (with_reducible apply amR_id)); first
    | (refine guardP_mk (fun h => ?_) (fun h => ?_) <;> (refine go1 ?_; try simp only [decide_eq_true_eq, decide_eq_false_iff_not, Bool.not_true, Bool.not_false, Bool.not_eq_true', Bool.not_eq_false', beq_iff_eq, bne_iff_ne, beq_eq_false_iff_ne, bne_eq_false_iff_eq, ne_eq, Bool.false_eq_true, reduceCtorEq] at h))
    | (refine hK _ ?_; clear hK K Q1)
    | (refine ⟨by first | omega | (simp only [List.length_map, List.length_append, List.length_cons, List.length_nil, List.length_replicate, List.length_drop, List.length_take]; omega), by unfold maxLen; first | omega | (simp only [List.length_map, List.length_append, List.length_cons, List.length_nil, List.length_replicate, List.length_drop, List.length_take]; omega), ?_⟩)
    | (refine hK _ _ rfl ?_; clear hK K; try refine go1 ?_)
    | (refine am_retP rfl ?_ rfl; first | refine go ?_ | rfl)
    | (refine am_retC [] rfl ?_ rfl rfl; first | refine go ?_ | rfl)
    | (refine wkq ?_)
    | (refine am_rs tabOk kOk rfl fun K Q1 hK => ?_; refine go1 ?_)
    | (refine am_ds mixed tabOk kOk rfl rfl fun K hK => ?_; refine go1 ?_)
    | (refine am_dreg mixed tabOk kOk rfl rfl fun K hK => ?_; refine go1 ?_)
  all_goals (clear hp; simp only [TV.c.injEq, CV.t.injEq, Tree.v.injEq, Value.bool.injEq]; rw [Bool.eq_iff_iff]; simp only [fitR, decide_eq_true_eq, decide_eq_false_iff_not, beq_iff_eq, Bool.false_eq_true, false_iff, true_iff] at *; omega)
def kn41_0_2 (s : Stb) (r : Rec) : Option TV := if r.kd = 1 then some (bool (fitR s r)) else none
def kn41_0_1 (r1 : List CV) (s : Stb) : Option TV := (unRec r1).bind (kn41_0_2 s)
def kn41_0_0 (r0 : List CV) (r1 : List CV) : Option TV := (unStb r0).bind (kn41_0_1 r1)
def kn41_0 : List TV → Option TV
  | [.agg r0, .agg r1] => kn41_0_0 r0 r1
  | _ => none
def kn41_1_0  : Option TV := some (bool true)
def kn41_1 : List TV → Option TV
  | [.c (.t (.v (.slice none 0 0))), .c (.t (.v (.slice none 0 0)))] => kn41_1_0
  | _ => none
def kn41_2_0 (k : Int) : Option TV := some (int k)
def kn41_2 : List TV → Option TV
  | [.c (.t (.v (.slice none 0 0))), .c (.t (.v (.int .i64 k)))] => kn41_2_0 k
  | _ => none
def kn41_3_0 (k : Int) : Option TV := some (int k)
def kn41_3 : List TV → Option TV
  | [.c (.t (.v (.slice none 0 0))), .c (.t (.v (.int .i64 k)))] => kn41_3_0 k
  | _ => none
def kn41_call (f : FuncId) (args : List TV) : Option TV := if f = 42 then orO (kn41_0 args) (kn40.call f args) else if f = 46 then orO (kn41_1 args) (kn40.call f args) else if f = 49 then orO (kn41_2 args) (kn40.call f args) else if f = 50 then orO (kn41_3 args) (kn40.call f args) else kn40.call f args
def kn41 : Kn := { call := kn41_call, eqs := eqTys, callB := kn40.callB }
attribute [go_sem] kn41_0_0 kn41_0_1 kn41_0_2 kn41_0 kn41_1_0 kn41_1 kn41_2_0 kn41_2 kn41_3_0 kn41_3 kn41_call kn41
theorem kn41_ok : ∀ f args res, kn41_call f args = some res → TC Try.prog f args [] 1 res [] 1 := by
  intro f args res h
  unfold kn41_call at h
  split at h
  · rename_i e; subst e
    have hh := orO_elim h
    clear h
    rcases hh with h | h
    rotate_left
    · exact k40.call _ _ _ h
    unfold kn41_0 at h
    split at h
    · rename_i r0 r1; unfold kn41_0_0 at h
      obtain ⟨s, e0, h⟩ := Option.bind_eq_some_iff.1 h
      unfold kn41_0_1 at h
      obtain ⟨r, e1, h⟩ := Option.bind_eq_some_iff.1 h
      unfold kn41_0_2 at h
      split at h
      · rename_i hc; cases h; rw [unStb_ok e0, unRec_ok e1]; exact fits_tc s r hc
      · cases h
    · cases h
  split at h
  · rename_i e; subst e
    have hh := orO_elim h
    clear h
    rcases hh with h | h
    rotate_left
    · exact k40.call _ _ _ h
    unfold kn41_1 at h
    split at h
    · unfold kn41_1_0 at h
      cases h; exact eqRs0_tc
    · cases h
  split at h
  · rename_i e; subst e
    have hh := orO_elim h
    clear h
    rcases hh with h | h
    rotate_left
    · exact k40.call _ _ _ h
    unfold kn41_2 at h
    split at h
    · rename_i k; unfold kn41_2_0 at h
      cases h; exact markRs0_tc k
    · cases h
  split at h
  · rename_i e; subst e
    have hh := orO_elim h
    clear h
    rcases hh with h | h
    rotate_left
    · exact k40.call _ _ _ h
    unfold kn41_3 at h
    split at h
    · rename_i k; unfold kn41_3_0 at h
      cases h; exact heldRs0_tc k
    · cases h
  · exact k40.call f args res h
theorem k41 : KnOk Try.prog kn41 := ⟨kn41_ok, eqTysOk, k40.callB⟩
abbrev AR := TV × List (Nat × AObj) × Nat
/-- The two logs, and the records. -/
def twoL (s u : Stb) : List (Nat × AObj) := [(1, .arr 87 7 (s.log.map Ent.tr)), (2, .arr 87 7 (u.log.map Ent.tr))]
def inS (s : Stb) (id : Nat) : TV := .agg [ci s.term, ci s.vote, .own id 0 s.log.length]
set_option maxHeartbeats 16000000 in
theorem planS_ok (s u : Stb) (hl : s.log.length ≤ 1048576) (hl2 : u.log.length ≤ 1048576) (h1 : stF s = true) (h2 : stF u = true) (h3 : fitB s u = true) : TC Try.prog 14 [.agg [ci s.term, ci s.vote, .own 1 0 s.log.length], .agg [ci u.term, ci u.vote, .own 2 0 u.log.length]] [(1, .arr 87 7 (s.log.map Ent.tr)), (2, .arr 87 7 (u.log.map Ent.tr))] 3
    (.agg [ci 0, .own 3 0 (recL s u).length]) [(1, .arr 87 7 (s.log.map Ent.tr)), (2, .arr 87 7 (u.log.map Ent.tr)), (3, .arr 89 11 ((recL s u).map Rec.tr))] 4 := by
  refine tc_cell tabOk Try.func14 rfl 102 rfl (Nat.le_of_ble_eq_true rfl) (by decide) [(4, some 51)] rfl dom2 ?_
  intro w0 E0
  have kOk := k41
  have hf : fitR s ⟨1, u.term, u.vote, 0, noEnt⟩ = true := h3
  obtain ⟨t, v, l⟩ := s
  obtain ⟨t', v', l'⟩ := u
  simp only at hl hl2
  simp only [noEnt] at hf
  have goal : ∀ H : List Rec, H = hardL ⟨t, v, l⟩ ⟨t', v', l'⟩ → H.length ≤ 1 := fun H e => by rw [e]; unfold hardL; split <;> simp
  by_cases hh : t = t' ∧ v = v'
  case' pos =>
    have hp := (show (l.length ≤ 1048576) = True ∧ (l'.length ≤ 1048576) = True ∧ stF ⟨t, v, l⟩ = true ∧ stF ⟨t', v', l'⟩ = true ∧ fitR ⟨t, v, l⟩ ⟨1, t', v', 0, ⟨0, ⟨0, 0, 0, ⟨#[]⟩, ⟨#[]⟩, ⟨#[]⟩⟩⟩⟩ = true ∧ (t != t') = false ∧ (v != v') = false from ⟨eq_true hl, eq_true hl2, h1, h2, hf, by simp [hh.1], by simp [hh.2]⟩)
    refine wk1 ?_
    refine am_tidy [(1, 1), (2, 2), (3, 3), (4, 4), (5, 5), (7, 6)] [2, 3, 4, 6, 7] 7 rfl ?_
    refine go1 ?_
    have hH : hardL ⟨t, v, l⟩ ⟨t', v', l'⟩ = [] := by simp only [hardL, if_pos hh]
  case' neg =>
    by_cases h4 : t = t'
    case' pos =>
      have hp := (show (l.length ≤ 1048576) = True ∧ (l'.length ≤ 1048576) = True ∧ stF ⟨t, v, l⟩ = true ∧ stF ⟨t', v', l'⟩ = true ∧ fitR ⟨t, v, l⟩ ⟨1, t', v', 0, ⟨0, ⟨0, 0, 0, ⟨#[]⟩, ⟨#[]⟩, ⟨#[]⟩⟩⟩⟩ = true ∧ (t != t') = false ∧ (v != v') = true from ⟨eq_true hl, eq_true hl2, h1, h2, hf, by simp [h4], by simp; exact fun e => hh ⟨h4, e⟩⟩)
    case' neg =>
      have hp := (show (l.length ≤ 1048576) = True ∧ (l'.length ≤ 1048576) = True ∧ stF ⟨t, v, l⟩ = true ∧ stF ⟨t', v', l'⟩ = true ∧ fitR ⟨t, v, l⟩ ⟨1, t', v', 0, ⟨0, ⟨0, 0, 0, ⟨#[]⟩, ⟨#[]⟩, ⟨#[]⟩⟩⟩⟩ = true ∧ (t != t') = true from ⟨eq_true hl, eq_true hl2, h1, h2, hf, by simp [h4]⟩)
    all_goals
      refine wk1 ?_
      refine am_tidy [(1, 1), (2, 2), (3, 3), (4, 4), (5, 5), (9, 6)] [2, 3, 4, 6, 7] 7 rfl ?_
      refine go1 ?_
      have hH : hardL ⟨t, v, l⟩ ⟨t', v', l'⟩ = [⟨1, t', v', 0, noEnt⟩] := by simp only [hardL, if_neg hh]
  all_goals
    have hL := goal _ rfl
    clear hp goal
    refine am_st ⟨[(2, .c (.ptr 3 0)), (3, .c (.ptr 4 0)), (4, .c (.ptr 5 0)), (6, .c (.own 6 0 (hardL ⟨t, v, l⟩ ⟨t', v', l'⟩).length)), (7, int 0)], [(1, .arr 87 7 (l.map Ent.tr)), (2, .arr 87 7 (l'.map Ent.tr)), (3, .cells [ci t, ci v, .own 1 0 l.length]), (4, .cells [ci t', ci v', .own 2 0 l'.length]), (5, .cells [ci 0, .t (.v (.slice none 0 0))]), (6, .arr 89 11 ((hardL ⟨t, v, l⟩ ⟨t', v', l'⟩).map Rec.tr))], 7⟩ (by rw [hH]; rfl) ?_
    clear hH hh
    simp only [recL, headL]
    generalize hardL ⟨t, v, l⟩ ⟨t', v', l'⟩ = H at hL ⊢
    have hcl := comF_le l l'
    obtain ⟨c, hcd⟩ : ∃ c, c = comF l l' := ⟨_, rfl⟩
    rw [← hcd] at hcl ⊢
    refine am_cut ⟨[(2, .c (.ptr 3 0)), (3, .c (.ptr 4 0)), (4, .c (.ptr 5 0)), (6, .c (.own 6 0 H.length)), (7, int (c : Nat))], [(1, .arr 87 7 (l.map Ent.tr)), (2, .arr 87 7 (l'.map Ent.tr)), (3, .cells [ci t, ci v, .own 1 0 l.length]), (4, .cells [ci t', ci v', .own 2 0 l'.length]), (5, .cells [ci 0, .t (.v (.slice none 0 0))]), (6, .arr 89 11 (H.map Rec.tr))], 7⟩ ?_ (fun KC hKC => ?_)
    rotate_left
    · refine am_loop (l.length + 1) ?_
      suffices key : ∀ (d k : Nat), k + d = l.length → comF (l.drop k) (l'.drop k) + k = c → amR Try.prog _ _ _ (d + 1) ⟨[(2, .c (.ptr 3 0)), (3, .c (.ptr 4 0)), (4, .c (.ptr 5 0)), (6, .c (.own 6 0 H.length)), (7, int (k : Nat))], [(1, .arr 87 7 (l.map Ent.tr)), (2, .arr 87 7 (l'.map Ent.tr)), (3, .cells [ci t, ci v, .own 1 0 l.length]), (4, .cells [ci t', ci v', .own 2 0 l'.length]), (5, .cells [ci 0, .t (.v (.slice none 0 0))]), (6, .arr 89 11 (H.map Rec.tr))], 7⟩ from key l.length 0 (by simp) (by simp [hcd])
      intro d
      induction d with
      | zero =>
        intro k hk hf
        rw [comF_end (.inl (by omega))] at hf
        obtain rfl : k = c := by omega
        have hp := (show ((k : Int) < (l.length : Int)) = False from eq_false (by omega))
        refine amR_succ ?_
        repeat' (fail_if_success (with_reducible apply amR_id)); first
          | (refine guardP_mk (fun h => ?_) (fun h => ?_) <;> (refine go1 ?_; try simp only [decide_eq_true_eq, decide_eq_false_iff_not, Bool.not_true, Bool.not_false, Bool.not_eq_true', Bool.not_eq_false', beq_iff_eq, bne_iff_ne, beq_eq_false_iff_ne, bne_eq_false_iff_eq, ne_eq, Bool.false_eq_true, reduceCtorEq] at h))
          | (refine hK _ ?_; clear hK K Q1)
          | (refine ⟨by first | omega | (simp only [List.length_map, List.length_append, List.length_cons, List.length_nil, List.length_replicate, List.length_drop, List.length_take]; omega), by unfold maxLen; first | omega | (simp only [List.length_map, List.length_append, List.length_cons, List.length_nil, List.length_replicate, List.length_drop, List.length_take]; omega), ?_⟩)
          | (refine hK _ _ rfl ?_; clear hK K; try refine go1 ?_)
          | (refine am_retP rfl ?_ rfl; first | refine go ?_ | rfl)
          | (refine am_retC [] rfl ?_ rfl rfl; first | refine go ?_ | rfl)
          | (refine wkq ?_)
          | (refine am_rs tabOk kOk rfl fun K Q1 hK => ?_; refine go1 ?_)
          | (refine am_ds mixed tabOk kOk rfl rfl fun K hK => ?_; refine go1 ?_)
          | (refine am_dreg mixed tabOk kOk rfl rfl fun K hK => ?_; refine go1 ?_)
        all_goals (refine hKC _ [(1, 1), (2, 2), (3, 3), (4, 4), (5, 5), (6, 6)] [2, 3, 4, 6, 7] 7 rfl ?_; first | rfl | (refine go ?_; rfl))
      | succ d ih =>
        intro k hk hf
        obtain ⟨e, he⟩ : ∃ e, l[k]? = some e := ⟨l[k]'(by omega), List.getElem?_eq_getElem (by omega)⟩
        by_cases hk2 : l'.length ≤ k
        · rw [comF_end (.inr hk2)] at hf
          obtain rfl : k = c := by omega
          have hp := (show ((k : Int) < (l.length : Int)) = True ∧ ((k : Int) < (l'.length : Int)) = False from ⟨eq_true (by omega), eq_false (by omega)⟩)
          refine amR_succ ?_
          repeat' (fail_if_success (with_reducible apply amR_id)); first
            | (refine guardP_mk (fun h => ?_) (fun h => ?_) <;> (refine go1 ?_; try simp only [decide_eq_true_eq, decide_eq_false_iff_not, Bool.not_true, Bool.not_false, Bool.not_eq_true', Bool.not_eq_false', beq_iff_eq, bne_iff_ne, beq_eq_false_iff_ne, bne_eq_false_iff_eq, ne_eq, Bool.false_eq_true, reduceCtorEq] at h))
            | (refine hK _ ?_; clear hK K Q1)
            | (refine ⟨by first | omega | (simp only [List.length_map, List.length_append, List.length_cons, List.length_nil, List.length_replicate, List.length_drop, List.length_take]; omega), by unfold maxLen; first | omega | (simp only [List.length_map, List.length_append, List.length_cons, List.length_nil, List.length_replicate, List.length_drop, List.length_take]; omega), ?_⟩)
            | (refine hK _ _ rfl ?_; clear hK K; try refine go1 ?_)
            | (refine am_retP rfl ?_ rfl; first | refine go ?_ | rfl)
            | (refine am_retC [] rfl ?_ rfl rfl; first | refine go ?_ | rfl)
            | (refine wkq ?_)
            | (refine am_rs tabOk kOk rfl fun K Q1 hK => ?_; refine go1 ?_)
            | (refine am_ds mixed tabOk kOk rfl rfl fun K hK => ?_; refine go1 ?_)
            | (refine am_dreg mixed tabOk kOk rfl rfl fun K hK => ?_; refine go1 ?_)
          all_goals (refine hKC _ [(1, 1), (2, 2), (3, 3), (4, 4), (5, 5), (6, 6)] [2, 3, 4, 6, 7] 7 rfl ?_; first | rfl | (refine go ?_; rfl))
        · obtain ⟨e', he'⟩ : ∃ e, l'[k]? = some e := ⟨l'[k]'(by omega), List.getElem?_eq_getElem (by omega)⟩
          rw [comF_drop he he'] at hf
          have hp := (show ((k : Int) < (l.length : Int)) = True ∧ ((k : Int) < (l'.length : Int)) = True ∧ (k < l.length) = True ∧ (k < l'.length) = True ∧ (l.map Ent.tr)[k]? = some e.tr ∧ (l'.map Ent.tr)[k]? = some e'.tr ∧ IntKind.i64.wrap ((k : Int) + 1) = ((k + 1 : Nat) : Int) from
            ⟨eq_true (by omega), eq_true (by omega), eq_true (by omega), eq_true (by omega), by rw [List.getElem?_map, he]; rfl, by rw [List.getElem?_map, he']; rfl, by rw [wrapN (by omega) (by omega)]; rfl⟩)
          by_cases hee : e = e'
          · subst hee
            rw [if_pos rfl] at hf
            have hq := (show (∀ x : Int, (x == x) = true) ∧ (∀ x : ByteArray, (x == x) = true) from ⟨fun x => by simp, fun x => by rw [beq_toListBytes]; simp⟩)
            obtain ⟨ta, ⟨aa, ba, oa, xa, ya, za⟩⟩ := e
            simp only [Ent.tr] at hp
            replace hp := And.intro hp hq
            refine amR_succ ?_
            repeat' (fail_if_success (with_reducible apply amR_id)); first
              | (refine guardP_mk (fun h => ?_) (fun h => ?_) <;> (refine go1 ?_; try simp only [decide_eq_true_eq, decide_eq_false_iff_not, Bool.not_true, Bool.not_false, Bool.not_eq_true', Bool.not_eq_false', beq_iff_eq, bne_iff_ne, beq_eq_false_iff_ne, bne_eq_false_iff_eq, ne_eq, Bool.false_eq_true, reduceCtorEq] at h))
              | (refine hK _ ?_; clear hK K Q1)
              | (refine ⟨by first | omega | (simp only [List.length_map, List.length_append, List.length_cons, List.length_nil, List.length_replicate, List.length_drop, List.length_take]; omega), by unfold maxLen; first | omega | (simp only [List.length_map, List.length_append, List.length_cons, List.length_nil, List.length_replicate, List.length_drop, List.length_take]; omega), ?_⟩)
              | (refine hK _ _ rfl ?_; clear hK K; try refine go1 ?_)
              | (refine am_retP rfl ?_ rfl; first | refine go ?_ | rfl)
              | (refine am_retC [] rfl ?_ rfl rfl; first | refine go ?_ | rfl)
              | (refine wkq ?_)
              | (refine am_rs tabOk kOk rfl fun K Q1 hK => ?_; refine go1 ?_)
              | (refine am_ds mixed tabOk kOk rfl rfl fun K hK => ?_; refine go1 ?_)
              | (refine am_dreg mixed tabOk kOk rfl rfl fun K hK => ?_; refine go1 ?_)
            all_goals (refine amR_tidy [(1, 1), (2, 2), (3, 3), (4, 4), (5, 5), (6, 6)] [2, 3, 4, 6, 7] 7 rfl ?_; refine go1 ?_; exact ih (k + 1) (by omega) (by omega))
          · rw [if_neg hee] at hf
            obtain rfl : k = c := by omega
            obtain ⟨ta, ⟨aa, ba, oa, xa, ya, za⟩⟩ := e
            obtain ⟨tb, ⟨ab, bb, ob, xb, yb, zb⟩⟩ := e'
            simp only [Ent.tr] at hp
            have hne : (ta == tb && (aa == ab && (ba == bb && (oa == ob && (xa == xb && (ya == yb && za == zb)))))) = false := by
              rw [Bool.eq_false_iff]
              intro h
              simp only [Bool.and_eq_true, beq_iff_eq, bbIff] at h
              obtain ⟨rfl, rfl, rfl, rfl, rfl, rfl, rfl⟩ := h
              exact hee rfl
            replace hp := And.intro hp hne
            refine amR_succ ?_
            repeat' (fail_if_success (with_reducible apply amR_id)); first
              | (refine guardP_mk (fun h => ?_) (fun h => ?_) <;> (refine go1 ?_; try simp only [decide_eq_true_eq, decide_eq_false_iff_not, Bool.not_true, Bool.not_false, Bool.not_eq_true', Bool.not_eq_false', beq_iff_eq, bne_iff_ne, beq_eq_false_iff_ne, bne_eq_false_iff_eq, ne_eq, Bool.false_eq_true, reduceCtorEq] at h))
              | (refine hK _ ?_; clear hK K Q1)
              | (refine ⟨by first | omega | (simp only [List.length_map, List.length_append, List.length_cons, List.length_nil, List.length_replicate, List.length_drop, List.length_take]; omega), by unfold maxLen; first | omega | (simp only [List.length_map, List.length_append, List.length_cons, List.length_nil, List.length_replicate, List.length_drop, List.length_take]; omega), ?_⟩)
              | (refine hK _ _ rfl ?_; clear hK K; try refine go1 ?_)
              | (refine am_retP rfl ?_ rfl; first | refine go ?_ | rfl)
              | (refine am_retC [] rfl ?_ rfl rfl; first | refine go ?_ | rfl)
              | (refine wkq ?_)
              | (refine am_rs tabOk kOk rfl fun K Q1 hK => ?_; refine go1 ?_)
              | (refine am_ds mixed tabOk kOk rfl rfl fun K hK => ?_; refine go1 ?_)
              | (refine am_dreg mixed tabOk kOk rfl rfl fun K hK => ?_; refine go1 ?_)
            all_goals (refine hKC _ [(1, 1), (2, 2), (3, 3), (4, 4), (5, 5), (6, 6)] [2, 3, 4, 6, 7] 7 rfl ?_; first | rfl | (refine go ?_; rfl))
    · obtain ⟨J, hJ⟩ : ∃ J, J = H ++ cutL ⟨t, v, l⟩ c := ⟨_, rfl⟩
      rw [← hJ]
      have hJl : J.length ≤ 2 := by rw [hJ, List.length_append]; unfold cutL; split <;> simp <;> omega
      by_cases hq : c < l.length
      case' pos =>
        have hp := (show ((c : Int) < (l.length : Int)) = True ∧ (H.length + 1 ≤ maxLen) = True ∧ (H.length + 1 ≤ 140737488355328) = True ∧ (H.length ≤ (H.map Rec.tr).length) = True ∧ (H.map Rec.tr).take H.length = H.map Rec.tr ∧ (H.map Rec.tr).length = H.length from ⟨eq_true (by omega), eq_true (by unfold maxLen; omega), eq_true (by omega), eq_true (by simp), List.take_of_length_le (by simp), by simp⟩)
        refine wk1 ?_
        refine am_reg tabOk kOk rfl fun K Q1 hK => ?_
        refine go1 ?_
        refine ⟨by omega, ?_⟩
        refine hK _ ?_
        clear hK K Q1
        refine go1 ?_
        refine wk1 ?_
        refine am_tidy [(1, 1), (2, 2), (3, 3), (4, 4), (5, 5), (8, 6)] [2, 3, 4, 6, 8] 7 rfl ?_
        refine go1 ?_
        have hJ2 : J = H ++ [⟨3, 0, 0, ((c : Nat) : Int), noEnt⟩] := by rw [hJ]; simp only [cutL, if_pos hq]
      case' neg =>
        have hp := (show ((c : Int) < (l.length : Int)) = False from eq_false (by omega))
        refine wk1 ?_
        refine am_tidy [(1, 1), (2, 2), (3, 3), (4, 4), (5, 5), (6, 6)] [2, 3, 4, 6, 8] 7 rfl ?_
        refine go1 ?_
        have hJ2 : J = H := by rw [hJ]; simp only [cutL, if_neg hq, List.append_nil]
      all_goals
        clear hp
        refine am_st ⟨[(2, .c (.ptr 3 0)), (3, .c (.ptr 4 0)), (4, .c (.ptr 5 0)), (6, .c (.own 6 0 J.length)), (8, int (c : Nat))], [(1, .arr 87 7 (l.map Ent.tr)), (2, .arr 87 7 (l'.map Ent.tr)), (3, .cells [ci t, ci v, .own 1 0 l.length]), (4, .cells [ci t', ci v', .own 2 0 l'.length]), (5, .cells [ci 0, .t (.v (.slice none 0 0))]), (6, .arr 89 11 (J.map Rec.tr))], 7⟩ (by rw [hJ2]; try simp [Rec.tr, noEnt]) ?_
        clear hJ2 hJ
        refine am_loop (l'.length - c + 1) ?_
        suffices key : ∀ (d i : Nat), i + d = l'.length → c ≤ i → amR Try.prog _ _ _ (d + 1) ⟨[(2, .c (.ptr 3 0)), (3, .c (.ptr 4 0)), (4, .c (.ptr 5 0)), (6, .c (.own 6 0 (J ++ addT l' c i).length)), (8, int (i : Nat))], [(1, .arr 87 7 (l.map Ent.tr)), (2, .arr 87 7 (l'.map Ent.tr)), (3, .cells [ci t, ci v, .own 1 0 l.length]), (4, .cells [ci t', ci v', .own 2 0 l'.length]), (5, .cells [ci 0, .t (.v (.slice none 0 0))]), (6, .arr 89 11 ((J ++ addT l' c i).map Rec.tr))], 7⟩ from by
          have := key (l'.length - c) c (by omega) (Nat.le_refl _)
          rw [addT_zero, List.append_nil] at this
          exact this
        intro d
        induction d with
        | zero =>
          intro i hi hci
          obtain rfl : i = l'.length := hi
          rw [addT_all]
          have hp := (show ((l'.length : Int) < (l'.length : Int)) = False from eq_false (by omega))
          refine amR_succ ?_
          refine wk1 ?_
          refine am_retC [(1, 1), (2, 2), (6, 3)] rfl ?_ rfl rfl
          first | refine go ?_ | rfl
        | succ d ih =>
          intro i hi hci
          obtain ⟨e, he⟩ : ∃ e, l'[i]? = some e := ⟨l'[i]'(by omega), List.getElem?_eq_getElem (by omega)⟩
          have ihk := ih (i + 1) (by omega) (by omega)
          rw [addT_succ he hci] at ihk
          have hXl : (J ++ addT l' c i).length ≤ 1048580 := by rw [List.length_append, addT_len (by omega)]; omega
          rw [← List.append_assoc] at ihk
          clear ih
          generalize J ++ addT l' c i = X at hXl ihk ⊢
          have hp := (show ((i : Int) < (l'.length : Int)) = True ∧ (i < l'.length) = True ∧ (l'.map Ent.tr)[i]? = some e.tr ∧ IntKind.i64.wrap ((i : Int) + 1) = ((i + 1 : Nat) : Int) ∧ (X.length + 1 ≤ maxLen) = True ∧ ((X.length + 1) * 112 ≤ 140737488355328) = True ∧ (X.map Rec.tr).take X.length = X.map Rec.tr ∧ (X.map Rec.tr).length = X.length from
            ⟨eq_true (by omega), eq_true (by omega), by rw [List.getElem?_map, he]; rfl, by rw [wrapN (by omega) (by omega)]; rfl, eq_true (by unfold maxLen; omega), eq_true (by omega), List.take_of_length_le (by simp), by simp⟩)
          obtain ⟨ta, ⟨aa, ba, oa, xa, ya, za⟩⟩ := e
          simp only [Ent.tr] at hp
          refine amR_succ ?_
          refine wk1 ?_
          refine amR_tidy [(1, 1), (2, 2), (3, 3), (4, 4), (5, 5), (8, 6)] [2, 3, 4, 6, 8] 7 rfl ?_
          refine go1 ?_
          refine amR_st ?_ ihk
          simp [Rec.tr]
end Go.Proofs.YtaolgdpkcbfocaaA
