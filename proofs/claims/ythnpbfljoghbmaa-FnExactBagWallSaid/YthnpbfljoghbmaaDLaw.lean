/- Bags: a wall put up or taken down; the law holds at every argument. -/
import Derived.Test.YthnpbfljoghbmaaDWall
namespace Go.Proofs.YthnpbfljoghbmaaA
open Go.Proofs
set_option autoImplicit false
set_option linter.unusedVariables false
set_option linter.unusedSimpArgs false
set_option maxRecDepth 4000
def ke3_0_1 (s : Int) (b : Bg) : Option TV := if bgOk b = true then some (.agg (⟨b.nx, skF b.ps s, b.ws⟩ : Bg).cv) else none
def ke3_0_0 (s : Int) (r0 : List CV) : Option TV := (unBg r0).bind (ke3_0_1 s)
def ke3_0 : List TV → Option TV
  | [.agg r0, .c (.t (.v (.int .i64 s)))] => ke3_0_0 s r0
  | _ => none
def ke3_call (f : FuncId) (args : List TV) : Option TV := if f = 63 then orO (ke3_0 args) (ke2.call f args) else ke2.call f args
def ke3 : Kn := { call := ke3_call, eqs := eqTys, callB := ke2.callB }
attribute [go_sem] ke3_0_0 ke3_0_1 ke3_0 ke3_call ke3
theorem ke3_ok : ∀ f args res, ke3_call f args = some res → TC Try.prog f args [] 1 res [] 1 := by
  intro f args res h
  unfold ke3_call at h
  split at h
  · rename_i e; subst e
    have hh := orO_elim h
    clear h
    rcases hh with h | h
    rotate_left
    · exact kE2.call _ _ _ h
    unfold ke3_0 at h
    split at h
    · rename_i r0 s; unfold ke3_0_0 at h
      obtain ⟨b, e0, h⟩ := Option.bind_eq_some_iff.1 h
      unfold ke3_0_1 at h
      split at h
      · rename_i hc; cases h; rw [unBg_ok e0]; exact cpS_tc b s hc
      · cases h
    · cases h
  · exact kE2.call f args res h
theorem kE3 : KnOk Try.prog ke3 := ⟨ke3_ok, eqTysOk, kE2.callB⟩
theorem wallS0_tc (b : Bg) (id up : Int) (h : bgOk b = true) (hf : bgF b.nx b.ps b.ws = false) : TC Try.prog 27 [.agg b.cv, int id, int up] [] 1 bg0 [] 1 := by
  refine tc_cell tabOk Try.func27 rfl 49 rfl (Nat.le_of_ble_eq_true rfl) (by decide) [(6, some 30)] rfl (by intro id x h; cases h) ?_
  intro w0 E0
  have kOk := kE3
  obtain ⟨n, ps, ws⟩ := b
  simp only [Bg.cv, bg0]
  simp only at hf
  have hp := And.intro h hf
  refine wk1 ?_
  refine am_retC [] rfl ?_ rfl rfl
  first | rfl | (refine go ?_; rfl)
theorem wallS1_tc (b : Bg) (id up : Int) (h : bgOk b = true) (hf : bgF b.nx b.ps b.ws = true) (hid : inB id 1 7 = false) : TC Try.prog 27 [.agg b.cv, int id, int up] [] 1 (.agg b.cv) [] 1 := by
  refine tc_cell tabOk Try.func27 rfl 49 rfl (Nat.le_of_ble_eq_true rfl) (by decide) [(6, some 30)] rfl (by intro id x h; cases h) ?_
  intro w0 E0
  have kOk := kE3
  obtain ⟨n, ps, ws⟩ := b
  simp only [Bg.cv]
  simp only at hf
  have hp := And.intro h (And.intro hf (And.intro hid (skF_neg ps)))
  refine wk1 ?_
  refine am_retC [] rfl ?_ rfl rfl
  first | rfl | (refine go ?_; rfl)
set_option maxHeartbeats 32000000 in
theorem wallS2_tc (b : Bg) (id up : Int) (h : bgOk b = true) (hf : bgF b.nx b.ps b.ws = true) (hid : inB id 1 7 = true) : TC Try.prog 27 [.agg b.cv, int id, int up] [] 1 (.agg (⟨b.nx, b.ps, wlGo b.ws id up 7 1⟩ : Bg).cv) [] 1 := by
  refine tc_cell tabOk Try.func27 rfl 49 rfl (Nat.le_of_ble_eq_true rfl) (by decide) [(6, some 30)] rfl (by intro id x h; cases h) ?_
  intro w0 E0
  have kOk := kE3
  obtain ⟨n, ps, ws⟩ := b
  simp only [Bg.cv]
  simp only at hf
  have hwl := h
  simp only [bgOk, Bool.and_eq_true, decide_eq_true_eq] at hwl
  generalize hR : wlGo ws id up 7 1 = R
  have hp := And.intro h (And.intro hf (And.intro hid (skF_neg ps)))
  refine wk1 ?_
  refine am_tidy [(1, 1), (2, 2), (3, 3), (4, 4)] [1, 2, 3, 6, 7, 8, 9] 5 rfl ?_
  refine go1 ?_
  clear hp
  refine am_loop 8 ?_
  suffices key : ∀ (d : Nat) (k : Int) (X : List Int), k + (d : Nat) = 8 → 1 ≤ k → X ++ wlGo ws id up d k = R → X.length + d ≤ 7 → amR Try.prog _ _ _ (d + 1) ⟨[(1, int id), (2, int up), (3, .c (.ptr 1 0)), (6, .c (.ptr 2 0)), (7, .c (.ptr 3 0)), (8, .c (.own 4 0 X.length)), (9, int k)], [(1, .cells [ci n, .t (.sl 4 (ps.map Pk.tr)), .t (.sl 1 (ws.map iTr))]), (2, .cells [ci 0, .t (.v (.slice none 0 0)), .t (.v (.slice none 0 0))]), (3, .cells [ci n, .t (.sl 4 (ps.map Pk.tr)), .t (.sl 1 (ws.map iTr))]), (4, .arr 3 1 (X.map iTr))], 5⟩ from key 7 1 [] (by decide) (by decide) hR (by simp)
  intro d
  induction d with
  | zero =>
    intro k X hk h1 hX hl
    simp only [wlGo, List.append_nil] at hX
    rw [← hX]
    have hp := (show (k ≤ 7) = False ∧ (X.map iTr).length = X.length from ⟨eq_false (by omega), by simp⟩)
    refine amR_succ ?_
    refine am_frz 4 rfl (Nat.le_of_ble_eq_true rfl) (by decide) ?_
    refine go1 ?_
    refine wk1 ?_
    refine am_retC [] rfl ?_ ?_ rfl <;> first | rfl | (refine go ?_; rfl)
  | succ d ih =>
    intro k X hk h1 hX hl
    simp only [wlGo] at hX
    have base := (show (k ≤ 7) = True ∧ IntKind.i64.wrap (k + 1) = k + 1 ∧ (X.length + 1 ≤ maxLen) = True ∧ ((X.length + 1) * 8 ≤ 140737488355328) = True ∧ (ws.length ≤ 1048576) = True from
      ⟨eq_true (by omega), wrapN (by omega) (by omega), eq_true (by unfold maxLen; omega), eq_true (by omega), eq_true hwl.2⟩)
    have no : wlC ws id up k = false → amR Try.prog _ _ _ (d + 1) ⟨[(1, int id), (2, int up), (3, .c (.ptr 1 0)), (6, .c (.ptr 2 0)), (7, .c (.ptr 3 0)), (8, .c (.own 4 0 X.length)), (9, int (k + 1))], [(1, .cells [ci n, .t (.sl 4 (ps.map Pk.tr)), .t (.sl 1 (ws.map iTr))]), (2, .cells [ci 0, .t (.v (.slice none 0 0)), .t (.v (.slice none 0 0))]), (3, .cells [ci n, .t (.sl 4 (ps.map Pk.tr)), .t (.sl 1 (ws.map iTr))]), (4, .arr 3 1 (X.map iTr))], 5⟩ := fun hc => ih (k + 1) X (by omega) (by omega) (by rw [if_neg (by simp [hc])] at hX; exact hX) (by omega)
    have yes : wlC ws id up k = true → amR Try.prog _ _ _ (d + 1) ⟨[(1, int id), (2, int up), (3, .c (.ptr 1 0)), (6, .c (.ptr 2 0)), (7, .c (.ptr 3 0)), (8, .c (.own 4 0 (X ++ [k]).length)), (9, int (k + 1))], [(1, .cells [ci n, .t (.sl 4 (ps.map Pk.tr)), .t (.sl 1 (ws.map iTr))]), (2, .cells [ci 0, .t (.v (.slice none 0 0)), .t (.v (.slice none 0 0))]), (3, .cells [ci n, .t (.sl 4 (ps.map Pk.tr)), .t (.sl 1 (ws.map iTr))]), (4, .arr 3 1 ((X ++ [k]).map iTr))], 5⟩ := fun hc => ih (k + 1) (X ++ [k]) (by omega) (by omega) (by rw [if_pos hc] at hX; rw [List.append_assoc]; exact hX) (by simp; omega)
    clear ih
    by_cases c1 : k = id
    · by_cases c2 : up = 0
      · have ihk := no (by simp [wlC, c1, c2])
        clear no yes
        have hp := And.intro base (show (k == id) = true ∧ (k = id) = True ∧ (k != id) = false ∧ (up != 0) = false ∧ (up = 0) = True from ⟨by simp [c1], eq_true c1, by simp [c1], by simp [c2], eq_true c2⟩)
        refine amR_succ ?_
        refine wk1 ?_
        refine amR_tidy [(1, 1), (2, 2), (3, 3), (4, 4)] [1, 2, 3, 6, 7, 8, 9] 5 rfl ?_
        refine go1 ?_
        exact ihk
      · have ihk := yes (by simp [wlC, c1, c2])
        clear no yes
        have hp := And.intro base (show (k == id) = true ∧ (k = id) = True ∧ (k != id) = false ∧ (up != 0) = true ∧ (up = 0) = False from ⟨by simp [c1], eq_true c1, by simp [c1], by simp [c2], eq_false c2⟩)
        refine amR_succ ?_
        refine wk1 ?_
        refine amR_tidy [(1, 1), (2, 2), (3, 3), (6, 4)] [1, 2, 3, 6, 7, 8, 9] 5 rfl ?_
        refine go1 ?_
        refine amR_st ?_ ihk
        simp [iTr]
    · by_cases c2 : k ∈ ws
      · have ihk := yes (by simp [wlC, c1, c2])
        clear no yes
        have hp := And.intro base (show (k == id) = false ∧ (k = id) = False ∧ (k != id) = true ∧ decide (k ∈ ws) = true ∧ (k ∈ ws) = True from ⟨by simp [c1], eq_false c1, by simp [c1], by simp [c2], eq_true c2⟩)
        refine amR_succ ?_
        refine wk1 ?_
        refine amR_tidy [(1, 1), (2, 2), (3, 3), (6, 4)] [1, 2, 3, 6, 7, 8, 9] 5 rfl ?_
        refine go1 ?_
        refine amR_st ?_ ihk
        simp [iTr]
      · have ihk := no (by simp [wlC, c1, c2])
        clear no yes
        have hp := And.intro base (show (k == id) = false ∧ (k = id) = False ∧ (k != id) = true ∧ decide (k ∈ ws) = false ∧ (k ∈ ws) = False from ⟨by simp [c1], eq_false c1, by simp [c1], by simp [c2], eq_false c2⟩)
        refine amR_succ ?_
        refine wk1 ?_
        refine amR_tidy [(1, 1), (2, 2), (3, 3), (4, 4)] [1, 2, 3, 6, 7, 8, 9] 5 rfl ?_
        refine go1 ?_
        exact ihk
end Go.Proofs.YthnpbfljoghbmaaA
