/- Bags: the reference's copy. -/
import Derived.Test.YthnpbfljoghbmaaDSpec
namespace Go.Proofs.YthnpbfljoghbmaaA
open Go.Proofs
set_option autoImplicit false
set_option linter.unusedVariables false
set_option linter.unusedSimpArgs false
set_option maxRecDepth 4000
def ke2_0_1 (b : Bg) : Option TV := if bgOk b = true then some (bool (bgF b.nx b.ps b.ws)) else none
def ke2_0_0 (r0 : List CV) : Option TV := (unBg r0).bind (ke2_0_1)
def ke2_0 : List TV → Option TV
  | [.agg r0] => ke2_0_0 r0
  | _ => none
def ke2_1_1 (a : Int) (b : Bg) : Option TV := if b.ws.length ≤ 1048576 then some (bool (decide (a ∈ b.ws))) else none
def ke2_1_0 (a : Int) (r0 : List CV) : Option TV := (unBg r0).bind (ke2_1_1 a)
def ke2_1 : List TV → Option TV
  | [.agg r0, .c (.t (.v (.int .i64 a)))] => ke2_1_0 a r0
  | _ => none
def ke2_call (f : FuncId) (args : List TV) : Option TV := if f = 62 then orO (ke2_0 args) (ke1.call f args) else if f = 66 then orO (ke2_1 args) (ke1.call f args) else ke1.call f args
def ke2 : Kn := { call := ke2_call, eqs := eqTys, callB := ke1.callB }
attribute [go_sem] ke2_0_0 ke2_0_1 ke2_0 ke2_1_0 ke2_1_1 ke2_1 ke2_call ke2
theorem ke2_ok : ∀ f args res, ke2_call f args = some res → TC Try.prog f args [] 1 res [] 1 := by
  intro f args res h
  unfold ke2_call at h
  split at h
  · rename_i e; subst e
    have hh := orO_elim h
    clear h
    rcases hh with h | h
    rotate_left
    · exact kE1.call _ _ _ h
    unfold ke2_0 at h
    split at h
    · rename_i r0; unfold ke2_0_0 at h
      obtain ⟨b, e0, h⟩ := Option.bind_eq_some_iff.1 h
      unfold ke2_0_1 at h
      split at h
      · rename_i hc; cases h; rw [unBg_ok e0]; exact okS_tc b hc
      · cases h
    · cases h
  split at h
  · rename_i e; subst e
    have hh := orO_elim h
    clear h
    rcases hh with h | h
    rotate_left
    · exact kE1.call _ _ _ h
    unfold ke2_1 at h
    split at h
    · rename_i r0 a; unfold ke2_1_0 at h
      obtain ⟨b, e0, h⟩ := Option.bind_eq_some_iff.1 h
      unfold ke2_1_1 at h
      split at h
      · rename_i hc; cases h; rw [unBg_ok e0]; exact wlS_tc b a hc
      · cases h
    · cases h
  · exact kE1.call f args res h
theorem kE2 : KnOk Try.prog ke2 := ⟨ke2_ok, eqTysOk, kE1.callB⟩
def skGo : List Pk → Int → Int → List Pk
  | [], _, _ => []
  | p :: l, i, s => if i = s then skGo l (i + 1) s else p :: skGo l (i + 1) s
def skF (l : List Pk) (s : Int) : List Pk := skGo l 0 s
theorem skGo_neg : ∀ (l : List Pk) (i : Int), 0 ≤ i → skGo l i (-1) = l
  | [], _, _ => rfl
  | p :: l, i, h => by
    simp only [skGo]
    rw [if_neg (by omega), skGo_neg l (i + 1) (by omega)]
theorem skF_neg (l : List Pk) : skF l (-1) = l := skGo_neg l 0 (Int.le_refl _)
theorem skGo_len : ∀ (l : List Pk) (i s : Int), (skGo l i s).length ≤ l.length
  | [], _, _ => Nat.le_refl _
  | p :: l, i, s => by
    have := skGo_len l (i + 1) s
    simp only [skGo]
    split <;> simp <;> omega
set_option maxHeartbeats 32000000 in
theorem cpS_tc (b : Bg) (s : Int) (h : bgOk b = true) : TC Try.prog 63 [.agg b.cv, int s] [] 1 (.agg (⟨b.nx, skF b.ps s, b.ws⟩ : Bg).cv) [] 1 := by
  obtain ⟨n, ps, ws⟩ := b
  simp only [bgOk, Bool.and_eq_true, decide_eq_true_eq] at h
  obtain ⟨hl, hb, _⟩ := of_decide_eq_true h.1
  have hw := h.2
  clear h
  simp only [Bg.cv]
  refine tc_cell tabOk Try.func63 rfl 50 rfl (Nat.le_of_ble_eq_true rfl) (by decide) [(4, some 30)] rfl (by intro id x h; cases h) ?_
  intro w0 E0
  have kOk := kE2
  refine wk ?_
  refine am_tidy [(1, 1), (2, 2), (3, 3)] [1, 2, 4, 5, 6] 4 rfl ?_
  refine go ?_
  refine am_ownNilCell 3 1 44 4 rfl rfl ?_
  refine go ?_
  refine am_ownNilCell 3 2 3 1 rfl rfl ?_
  refine go ?_
  refine am_loop (ps.length + 1) ?_
  suffices key : ∀ (r : List Pk) (k : Nat) (L X : List Pk), L.length = k → L ++ r = ps → X ++ skGo r (k : Nat) s = skF ps s → X.length ≤ k → amR Try.prog _ _ _ (r.length + 1) ⟨[(1, int s), (2, .c (.ptr 1 0)), (4, .c (.ptr 2 0)), (5, .c (.ptr 3 0)), (6, int (k : Nat))], [(1, .cells [ci n, .t (.sl 4 (ps.map Pk.tr)), .t (.sl 1 (ws.map iTr))]), (2, .cells [ci 0, .t (.v (.slice none 0 0)), .t (.v (.slice none 0 0))]), (3, .cells [ci n, .own 4 0 X.length, .own 5 0 0]), (4, .arr 44 4 (X.map Pk.tr)), (5, .arr 3 1 [])], 6⟩ from key ps 0 [] [] rfl rfl rfl (Nat.le_refl _)
  intro r
  induction r with
  | nil =>
    intro k L X hL hR hX hXk
    rw [List.append_nil] at hR
    subst hR
    simp only [skGo, List.append_nil] at hX
    rw [← hX]
    have hp := (show ((k : Int) < (L.length : Int)) = False ∧ (L.map Pk.tr).length = L.length from ⟨eq_false (by omega), by simp⟩)
    refine amR_succ ?_
    refine wk1 ?_
    refine am_tidy [(1, 1), (2, 2), (3, 3), (4, 4), (5, 5)] [2, 4, 5, 7] 6 rfl ?_
    refine go1 ?_
    clear hp
    refine am_loop (ws.length + 1) ?_
    suffices key2 : ∀ (u : List Int) (j : Nat) (M : List Int), M.length = j → M ++ u = ws → amR Try.prog _ _ _ (u.length + 1) ⟨[(2, .c (.ptr 1 0)), (4, .c (.ptr 2 0)), (5, .c (.ptr 3 0)), (7, int (j : Nat))], [(1, .cells [ci n, .t (.sl 4 (L.map Pk.tr)), .t (.sl 1 (ws.map iTr))]), (2, .cells [ci 0, .t (.v (.slice none 0 0)), .t (.v (.slice none 0 0))]), (3, .cells [ci n, .own 4 0 X.length, .own 5 0 M.length]), (4, .arr 44 4 (X.map Pk.tr)), (5, .arr 3 1 (M.map iTr))], 6⟩ from key2 ws 0 [] rfl rfl
    intro u
    induction u with
    | nil =>
      intro j M hM hR2
      rw [List.append_nil] at hR2
      subst hR2
      have hp := (show ((j : Int) < (M.length : Int)) = False ∧ (M.map iTr).length = M.length ∧ (X.map Pk.tr).length = X.length from ⟨eq_false (by omega), by simp, by simp⟩)
      refine amR_succ ?_
      refine am_frz 4 rfl (Nat.le_of_ble_eq_true rfl) (by decide) ?_
      refine go1 ?_
      refine am_frz 5 rfl (Nat.le_of_ble_eq_true rfl) (by decide) ?_
      refine go1 ?_
      refine wk1 ?_
      refine am_retC [] rfl ?_ ?_ rfl <;> first | rfl | (refine go ?_; rfl)
    | cons e u ih =>
      intro j M hM hR2
      have he : ws[j]? = some e := by rw [← hR2]; exact mid_get _ _ hM _
      have hj := (List.getElem?_eq_some_iff.1 he).1
      have ihk := ih (j + 1) (M ++ [e]) (by simp [hM]) (by rw [List.append_assoc]; exact hR2)
      have hp := (show ((j : Int) < (ws.length : Int)) = True ∧ (j < ws.length) = True ∧ (ws.map iTr).length = ws.length ∧ (ws.map iTr)[j]? = some [.v (.int .i64 e)] ∧ IntKind.i64.wrap ((j : Int) + 1) = ((j + 1 : Nat) : Int) ∧ (M.length + 1 ≤ maxLen) = True ∧ ((M.length + 1) * 8 ≤ 140737488355328) = True from
        ⟨eq_true (by omega), eq_true hj, by simp, by rw [List.getElem?_map, he]; rfl, by rw [wrapN (by omega) (by omega)]; rfl, eq_true (by unfold maxLen; omega), eq_true (by omega)⟩)
      clear ih
      refine amR_succ ?_
      refine wk1 ?_
      refine amR_tidy [(1, 1), (2, 2), (3, 3), (4, 4), (7, 5)] [2, 4, 5, 7] 6 rfl ?_
      refine go1 ?_
      refine amR_st ?_ ihk
      simp [iTr]
  | cons e r ih =>
    intro k L X hL hR hX hXk
    have he : ps[k]? = some e := by rw [← hR]; exact mid_get _ _ hL _
    have hk := (List.getElem?_eq_some_iff.1 he).1
    have hbe := hb e (List.mem_of_getElem? he)
    have base := (show ((k : Int) < (ps.length : Int)) = True ∧ (k < ps.length) = True ∧ (ps.map Pk.tr).length = ps.length ∧ (ps.map Pk.tr)[k]? = some e.tr ∧ IntKind.i64.wrap ((k : Int) + 1) = ((k + 1 : Nat) : Int) ∧ (X.length + 1 ≤ maxLen) = True ∧ ((X.length + 1) * 48 ≤ 140737488355328) = True ∧ (e.bytes.length ≤ 1048576) = True from
      ⟨eq_true (by omega), eq_true hk, by simp, by rw [List.getElem?_map, he]; rfl, by rw [wrapN (by omega) (by omega)]; rfl, eq_true (by unfold maxLen; omega), eq_true (by omega), eq_true hbe⟩)
    simp only [skGo] at hX
    by_cases c : (k : Int) = s
    · rw [if_pos c] at hX
      have ihk := ih (k + 1) (L ++ [e]) X (by simp [hL]) (by rw [List.append_assoc]; exact hR) hX (by omega)
      clear ih
      have hp := And.intro base (show ((k : Int) != s) = false ∧ ((k : Int) = s) = True from ⟨by simp [c], eq_true c⟩)
      refine amR_succ ?_
      refine wk1 ?_
      refine amR_tidy [(1, 1), (2, 2), (3, 3), (4, 4), (5, 5)] [1, 2, 4, 5, 6] 6 rfl ?_
      refine go1 ?_
      exact ihk
    · rw [if_neg c] at hX
      have ihk := ih (k + 1) (L ++ [e]) (X ++ [e]) (by simp [hL]) (by rw [List.append_assoc]; exact hR) (by rw [List.append_assoc]; exact hX) (by simp; omega)
      clear ih
      have hp := And.intro base (show ((k : Int) != s) = true ∧ ((k : Int) = s) = False from ⟨by simp [c], eq_false c⟩)
      obtain ⟨ea, eb, ec, ev⟩ := e
      simp only [Pk.tr] at hp
      refine amR_succ ?_
      refine wk1 ?_
      refine amR_tidy [(1, 1), (2, 2), (3, 3), (7, 4), (5, 5)] [1, 2, 4, 5, 6] 6 rfl ?_
      refine go1 ?_
      refine amR_st ?_ ihk
      simp [Pk.tr]
end Go.Proofs.YthnpbfljoghbmaaA
