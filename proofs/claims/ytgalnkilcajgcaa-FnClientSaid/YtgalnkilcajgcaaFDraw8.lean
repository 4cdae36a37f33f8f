/- Draws: calls of a client, the walk. -/
import Derived.Test.YtgalnkilcajgcaaFDraw7
namespace Go.Proofs.YtgalnkilcajgcaaA
open Go.Proofs
set_option autoImplicit false
set_option linter.unusedVariables false
set_option linter.unusedSimpArgs false
set_option maxRecDepth 4000
theorem cliA_le (bs : List Int) (a : Int) : a + 1 ≤ cliA bs a ∧ cliA bs a ≤ a + 30 := by
  have h1 := cmdN_le bs (cliB bs a + 1)
  have h2 : a + 6 ≤ cliB bs a ∧ cliB bs a ≤ a + 7 := by unfold cliB; split <;> omega
  unfold cliA
  (repeat' split) <;> omega
def evQ (bs : List Int) (a : Int) (c : Cl) (s : Int) : Ev := ⟨IntKind.i64.wrap (1 + pkF bs a 3), cmdF bs (a + 1), { repF bs (cmdN bs (a + 1)) with cl := c.id, sq := s }⟩
theorem evF_eq {bs : List Int} {a : Int} {c : Cl} {s : Int} (h : evSq bs a c = s) : evF bs a c = evQ bs a c s := by subst h; rfl
/-- A table of known functions on top of another. -/
def orKn (k k' : Kn) : Kn := { call := fun f args => orO (k.call f args) (k'.call f args), eqs := eqTys, callB := fun f args o => orO (k.callB f args o) (k'.callB f args o) }
theorem orKn_ok {k k' : Kn} (h : KnOk Try.prog k) (h' : KnOk Try.prog k') : KnOk Try.prog (orKn k k') := by
  refine ⟨fun f args res hr => ?_, eqTysOk, fun f args o res o1 n1 hr => ?_⟩
  · rcases orO_elim hr with hr | hr
    · exact h.call _ _ _ hr
    · exact h'.call _ _ _ hr
  · rcases orO_elim hr with hr | hr
    · exact h.callB _ _ _ _ _ _ hr
    · exact h'.callB _ _ _ _ _ _ hr
def evN (bs : List Int) : Int := IntKind.i64.wrap (6 + IntKind.i64.wrap (Int.tdiv (if (bs.length : Int) < 400 then (bs.length : Int) else 400) 6))
def evM (bs : List Int) : Int := IntKind.i64.wrap (6 + pkF bs (cliA bs 0) (evN bs))
theorem evN_rng {bs : List Int} (hb : okS bs) : 1 ≤ evN bs ∧ evN bs ≤ 256 := by
  have h := hb.2
  unfold evN
  have ht : Int.tdiv (if (bs.length : Int) < 400 then (bs.length : Int) else 400) 6 = (if (bs.length : Int) < 400 then (bs.length : Int) else 400) / 6 := Int.tdiv_eq_ediv_of_nonneg (by split <;> omega)
  rw [ht]
  have hx : 0 ≤ (if (bs.length : Int) < 400 then (bs.length : Int) else 400) / 6 ∧ (if (bs.length : Int) < 400 then (bs.length : Int) else 400) / 6 ≤ 66 := by split <;> omega
  generalize (if (bs.length : Int) < 400 then (bs.length : Int) else 400) / 6 = x at hx ⊢
  have w1 : IntKind.i64.wrap x = x := wrapN (by omega) (by omega)
  rw [w1]
  have w2 : IntKind.i64.wrap (6 + x) = 6 + x := wrapN (by omega) (by omega)
  rw [w2]
  omega
def kd8_0_2 (c : Cl) (e : Ev) : Option TV := some (.agg (stepF c e).cv)
def kd8_0_1 (r1 : List CV) (c : Cl) : Option TV := (unEv r1).bind (kd8_0_2 c)
def kd8_0_0 (r0 : List CV) (r1 : List CV) : Option TV := (unCl r0).bind (kd8_0_1 r1)
def kd8_0 : List TV → Option TV
  | [.agg r0, .agg r1] => kd8_0_0 r0 r1
  | _ => none
def kd8_call (f : FuncId) (args : List TV) : Option TV := if f = 15 then orO (kd8_0 args) (kd7.call f args) else kd7.call f args
def kd8 : Kn := { call := kd8_call, eqs := eqTys, callB := kd7.callB }
attribute [go_sem] kd8_0_0 kd8_0_1 kd8_0_2 kd8_0 kd8_call kd8
theorem kd8_ok : ∀ f args res, kd8_call f args = some res → TC Try.prog f args [] 1 res [] 1 := by
  intro f args res h
  unfold kd8_call at h
  split at h
  · rename_i e; subst e
    have hh := orO_elim h
    clear h
    rcases hh with h | h
    rotate_left
    · exact kD7.call _ _ _ h
    unfold kd8_0 at h
    split at h
    · rename_i r0 r1; unfold kd8_0_0 at h
      obtain ⟨c, e0, h⟩ := Option.bind_eq_some_iff.1 h
      unfold kd8_0_1 at h
      obtain ⟨e, e1, h⟩ := Option.bind_eq_some_iff.1 h
      unfold kd8_0_2 at h
      cases h; rw [unCl_ok e0, unEv_ok e1]; exact stepS_tc c e
    · cases h
  · exact kD7.call f args res h
theorem kD8 : KnOk Try.prog kd8 := ⟨kd8_ok, eqTysOk, kD7.callB⟩
def drawA (bs : List Int) : List Ev := evGo bs (evM bs).toNat (cliA bs 0 + 1) (cliF bs 0)
set_option maxHeartbeats 64000000 in
theorem calls_tc (bs : List Int) (hb : okS bs) : TC Try.prog 14 [ro 1 (bs.map bTr)] [] 1 (.tup [.agg (cliF bs 0).cv, .c (.own 1 0 (drawA bs).length)]) [(1, .arr 36 13 ((drawA bs).map Ev.tr))] 2 := by
  refine tc_cell tabOk Try.func14 rfl 62 rfl (Nat.le_of_ble_eq_true rfl) (by decide) [(2, some 26), (3, none)] rfl (by intro id x h; cases h) ?_
  intro w0 E0
  have kOk := kD8
  have c1 := cliA_le bs 0
  have en := evN_rng hb
  have en' := en
  unfold evN at en'
  have hp := (show okL bs 0 = True ∧ okS bs = True ∧ okA (cliA bs 0) = True ∧ (1 ≤ IntKind.i64.wrap (6 + IntKind.i64.wrap (Int.tdiv (if (bs.length : Int) < 400 then (bs.length : Int) else 400) 6))) = True ∧ (IntKind.i64.wrap (6 + IntKind.i64.wrap (Int.tdiv (if (bs.length : Int) < 400 then (bs.length : Int) else 400) 6)) ≤ 256) = True from ⟨eq_true ⟨hb, by omega, by omega⟩, eq_true hb, eq_true ⟨by omega, by omega⟩, eq_true en'.1, eq_true en'.2⟩)
  have hM : 6 ≤ evM bs ∧ evM bs ≤ 262 := by
    have r := pk_rng (bs := bs) (a := cliA bs 0) (n := evN bs) hb ⟨by omega, by omega⟩ (by omega)
    unfold evM
    rw [wrapN (by omega) (by omega)]
    omega
  refine wk1 ?_
  refine am_tidy [(1, 1), (2, 2), (3, 3), (4, 4), (5, 5)] [2, 3, 4, 5, 6, 7, 8, 9] 6 rfl ?_
  refine go1 ?_
  refine am_loop ((evM bs).toNat + 1) ?_
  suffices key : ∀ (d k : Nat) (a : Int) (c : Cl) (pv : List Ev), k + d = (evM bs).toNat → pv.length = k → 0 ≤ a → a ≤ 1000 + 100 * (k : Nat) → pv ++ evGo bs d a c = drawA bs →
      amR Try.prog _ _ _ (d + 1) ⟨[(2, .c (.ptr 1 0)), (3, lit (.slice none 0 0)), (4, .c (.ptr 2 0)), (5, .c (.ptr 3 0)), (6, .c (.ptr 4 0)), (7, .c (.own 5 0 k)), (8, int (evM bs)), (9, int (k : Nat))], [(1, .cells (Cl.cv ⟨0, 0, 0, 0, 0, 0, 0, ⟨0, 0, 0, ⟨#[]⟩, ⟨#[]⟩, ⟨#[]⟩⟩⟩)), (2, .cells [.t (.sl 1 (bs.map bTr)), ci a]), (3, .cells c.cv), (4, .cells (cliF bs 0).cv), (5, .arr 36 13 (pv.map Ev.tr))], 6⟩ from key (evM bs).toNat 0 (cliA bs 0 + 1) (cliF bs 0) [] (by simp) rfl (by omega) (by omega) rfl
  clear hp
  intro d
  induction d with
  | zero =>
    intro k a c pv hk hl h0 h1 hf
    rw [evGo, List.append_nil] at hf
    subst hf
    subst hl
    have hp := trivial
    refine amR_succ ?_
    repeat' (fail_if_success (with_reducible apply amR_id)); first
      | (refine guardP_mk (fun h => ?_) (fun h => ?_) <;> (refine go1 ?_; try simp only [decide_eq_true_eq, decide_eq_false_iff_not, Bool.not_true, Bool.not_false, Bool.not_eq_true', Bool.not_eq_false', beq_iff_eq, bne_iff_ne, beq_eq_false_iff_ne, bne_eq_false_iff_eq, ne_eq, Bool.false_eq_true, reduceCtorEq] at h))
      | (refine hK _ ?_; clear hK K Q1)
      | (refine hK _ _ rfl ?_; clear hK K; try refine go1 ?_)
      | (refine am_retP rfl ?_ rfl; first | refine go ?_ | rfl)
      | (refine am_retC [] rfl ?_ rfl rfl; first | refine go ?_ | rfl)
      | (refine wkq ?_)
      | (refine am_rs tabOk kOk rfl fun K Q1 hK => ?_; refine go1 ?_)
      | (refine am_ds mixed tabOk kOk rfl rfl fun K hK => ?_; refine go1 ?_)
      | (refine am_dreg mixed tabOk kOk rfl rfl fun K hK => ?_; refine go1 ?_)
    all_goals first | (exfalso; omega) | skip
    all_goals refine am_retC [(5, 1)] rfl ?_ rfl rfl
    all_goals first | rfl | (refine go ?_; rfl) | refine go ?_
  | succ d ih =>
    intro k a c pv hk hl h0 h1 hf
    have q1 := cmdN_le bs (a + 1)
    have q2 := repN_le bs (cmdN bs (a + 1))
    have q3 := evA_le bs a
    have okk : ∀ x : Int, 0 ≤ x → x ≤ 1099511615000 → okA x = True ∧ okC bs x = True := fun x hx hy => ⟨eq_true ⟨hx, by omega⟩, eq_true ⟨hb, hx, by omega⟩⟩
    have hlt : k < (evM bs).toNat := by omega
    rw [evGo] at hf
    by_cases h4 : pkF bs (evR bs a) 4 = 0
    · have hA : evA bs a = evR bs a + 1 + 1 := if_pos h4
      have hE := evF_eq (bs := bs) (a := a) (c := c) (if_pos h4)
      rw [hE, hA] at hf
      unfold evR at h4 hf
      have hp := (show okA a = True ∧ okC bs (a + 1) = True ∧ okC bs (cmdN bs (a + 1)) = True ∧ okA (repN bs (cmdN bs (a + 1))) = True ∧ okA (repN bs (cmdN bs (a + 1)) + 1) = True ∧ pkF bs (repN bs (cmdN bs (a + 1))) 4 = 0 ∧ (pv.map Ev.tr).length = k ∧ (k ≤ k) = True ∧ (pv.map Ev.tr).take k = pv.map Ev.tr ∧ ((k : Int) < evM bs) = True ∧ IntKind.i64.wrap ((k : Int) + 1) = ((k + 1 : Nat) : Int) ∧ (∀ x : Int, (x == x) = true) from
        ⟨(okk _ (by omega) (by omega)).1, (okk _ (by omega) (by omega)).2, (okk _ (by omega) (by omega)).2, (okk _ (by omega) (by omega)).1, (okk _ (by omega) (by omega)).1, h4, by simp [hl], by simp, List.take_of_length_le (by simp [hl]), eq_true (by omega), by rw [wrapN (by omega) (by omega)]; rfl, fun x => by simp⟩)
      refine amR_succ ?_
      refine wk1 ?_
      refine am_rs tabOk kOk rfl fun K Q1 hK => ?_
      refine go1 ?_
      refine ⟨by omega, by unfold maxLen; omega, ?_⟩
      refine hK _ ?_
      clear hK K Q1
      refine go1 ?_
      refine wk1 ?_
      refine amR_tidy [(1, 1), (2, 2), (3, 3), (4, 4), (8, 5)] [2, 3, 4, 5, 6, 7, 8, 9] 6 rfl ?_
      refine go1 ?_
      have hx := ih (k + 1) (repN bs (cmdN bs (a + 1)) + 1 + 1) _ (pv ++ [evQ bs a c (if (1 : Int) > IntKind.i64.wrap (IntKind.i64.wrap (c.sq - 1) + IntKind.i64.wrap (2 * pkF bs (repN bs (cmdN bs (a + 1)) + 1) 2)) then 1 else IntKind.i64.wrap (IntKind.i64.wrap (c.sq - 1) + IntKind.i64.wrap (2 * pkF bs (repN bs (cmdN bs (a + 1)) + 1) 2)))]) (by omega) (by simp [hl]) (by omega) (by omega) (by rw [List.append_assoc]; exact hf)
      rw [List.map_append] at hx
      exact hx
    · have hA : evA bs a = evR bs a + 1 := if_neg h4
      have hE := evF_eq (bs := bs) (a := a) (c := c) (if_neg h4)
      rw [hE, hA] at hf
      unfold evR at h4 hf
      have hp := (show okA a = True ∧ okC bs (a + 1) = True ∧ okC bs (cmdN bs (a + 1)) = True ∧ okA (repN bs (cmdN bs (a + 1))) = True ∧ okA (repN bs (cmdN bs (a + 1)) + 1) = True ∧ (pkF bs (repN bs (cmdN bs (a + 1))) 4 == 0) = false ∧ (pv.map Ev.tr).length = k ∧ (k ≤ k) = True ∧ (pv.map Ev.tr).take k = pv.map Ev.tr ∧ ((k : Int) < evM bs) = True ∧ IntKind.i64.wrap ((k : Int) + 1) = ((k + 1 : Nat) : Int) ∧ (∀ x : Int, (x == x) = true) from
        ⟨(okk _ (by omega) (by omega)).1, (okk _ (by omega) (by omega)).2, (okk _ (by omega) (by omega)).2, (okk _ (by omega) (by omega)).1, (okk _ (by omega) (by omega)).1, by simpa using h4, by simp [hl], by simp, List.take_of_length_le (by simp [hl]), eq_true (by omega), by rw [wrapN (by omega) (by omega)]; rfl, fun x => by simp⟩)
      refine amR_succ ?_
      refine wk1 ?_
      refine am_rs tabOk kOk rfl fun K Q1 hK => ?_
      refine go1 ?_
      refine ⟨by omega, by unfold maxLen; omega, ?_⟩
      refine hK _ ?_
      clear hK K Q1
      refine go1 ?_
      refine wk1 ?_
      refine amR_tidy [(1, 1), (2, 2), (3, 3), (4, 4), (8, 5)] [2, 3, 4, 5, 6, 7, 8, 9] 6 rfl ?_
      refine go1 ?_
      have hx := ih (k + 1) (repN bs (cmdN bs (a + 1)) + 1) _ (pv ++ [evQ bs a c (if (1 : Int) > c.sq then 1 else c.sq)]) (by omega) (by simp [hl]) (by omega) (by omega) (by rw [List.append_assoc]; exact hf)
      rw [List.map_append] at hx
      exact hx
end Go.Proofs.YtgalnkilcajgcaaA
