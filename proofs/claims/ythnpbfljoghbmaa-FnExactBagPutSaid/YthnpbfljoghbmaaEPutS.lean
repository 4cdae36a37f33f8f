/- Bags: a packet put in, the reference's way. -/
import Derived.Test.YthnpbfljoghbmaaDSpec2
import Derived.Test.YthnpbfljoghbmaaEPut
namespace Go.Proofs.YthnpbfljoghbmaaA
open Go.Proofs
set_option autoImplicit false
set_option linter.unusedVariables false
set_option linter.unusedSimpArgs false
set_option maxRecDepth 4000
set_option maxHeartbeats 32000000 in
theorem cpO_tc (b : Bg) (s : Int) (h : bgOk b = true) : TC Try.prog 63 [.agg b.cv, int s] [] 1 (.agg [ci b.nx, .own 1 0 (skF b.ps s).length, .own 2 0 b.ws.length]) [(1, .arr 44 4 ((skF b.ps s).map Pk.tr)), (2, .arr 3 1 (b.ws.map iTr))] 3 := by
  obtain ⟨n, ps, ws⟩ := b
  simp only [bgOk, Bool.and_eq_true, decide_eq_true_eq] at h
  obtain ⟨hl, hb, _⟩ := of_decide_eq_true h.1
  have hw := h.2
  clear h
  simp only [Bg.cv]
  refine tc_cell tabOk Try.func63 rfl 50 rfl (Nat.le_of_ble_eq_true rfl) (by decide) [(4, some 30)] rfl (by intro id x h; cases h) ?_
  intro w0 E0
  have kOk := kE2
  refine wk ?_
  refine am_tidy [(1, 1), (2, 2), (3, 3)] [1, 2, 4, 5, 6] 4 rfl ?_
  refine go ?_
  refine am_ownNilCell 3 1 44 4 rfl rfl ?_
  refine go ?_
  refine am_ownNilCell 3 2 3 1 rfl rfl ?_
  refine go ?_
  refine am_loop (ps.length + 1) ?_
  suffices key : ∀ (r : List Pk) (k : Nat) (L X : List Pk), L.length = k → L ++ r = ps → X ++ skGo r (k : Nat) s = skF ps s → X.length ≤ k → amR Try.prog _ _ _ (r.length + 1) ⟨[(1, int s), (2, .c (.ptr 1 0)), (4, .c (.ptr 2 0)), (5, .c (.ptr 3 0)), (6, int (k : Nat))], [(1, .cells [ci n, .t (.sl 4 (ps.map Pk.tr)), .t (.sl 1 (ws.map iTr))]), (2, .cells [ci 0, .t (.v (.slice none 0 0)), .t (.v (.slice none 0 0))]), (3, .cells [ci n, .own 4 0 X.length, .own 5 0 0]), (4, .arr 44 4 (X.map Pk.tr)), (5, .arr 3 1 [])], 6⟩ from key ps 0 [] [] rfl rfl rfl (Nat.le_refl _)
  intro r
  induction r with
  | nil =>
    intro k L X hL hR hX hXk
    rw [List.append_nil] at hR
    subst hR
    simp only [skGo, List.append_nil] at hX
    rw [← hX]
    have hp := (show ((k : Int) < (L.length : Int)) = False ∧ (L.map Pk.tr).length = L.length from ⟨eq_false (by omega), by simp⟩)
    refine amR_succ ?_
    refine wk1 ?_
    refine am_tidy [(1, 1), (2, 2), (3, 3), (4, 4), (5, 5)] [2, 4, 5, 7] 6 rfl ?_
    refine go1 ?_
    clear hp
    refine am_loop (ws.length + 1) ?_
    suffices key2 : ∀ (u : List Int) (j : Nat) (M : List Int), M.length = j → M ++ u = ws → amR Try.prog _ _ _ (u.length + 1) ⟨[(2, .c (.ptr 1 0)), (4, .c (.ptr 2 0)), (5, .c (.ptr 3 0)), (7, int (j : Nat))], [(1, .cells [ci n, .t (.sl 4 (L.map Pk.tr)), .t (.sl 1 (ws.map iTr))]), (2, .cells [ci 0, .t (.v (.slice none 0 0)), .t (.v (.slice none 0 0))]), (3, .cells [ci n, .own 4 0 X.length, .own 5 0 M.length]), (4, .arr 44 4 (X.map Pk.tr)), (5, .arr 3 1 (M.map iTr))], 6⟩ from key2 ws 0 [] rfl rfl
    intro u
    induction u with
    | nil =>
      intro j M hM hR2
      rw [List.append_nil] at hR2
      subst hR2
      have hp := (show ((j : Int) < (M.length : Int)) = False ∧ (M.map iTr).length = M.length ∧ (X.map Pk.tr).length = X.length from ⟨eq_false (by omega), by simp, by simp⟩)
      refine amR_succ ?_
      refine wk1 ?_
      refine am_retC [(4, 1), (5, 2)] rfl ?_ ?_ rfl <;> first | rfl | (refine go ?_; rfl) | refine go ?_
    | cons e u ih =>
      intro j M hM hR2
      have he : ws[j]? = some e := by rw [← hR2]; exact mid_get _ _ hM _
      have hj := (List.getElem?_eq_some_iff.1 he).1
      have ihk := ih (j + 1) (M ++ [e]) (by simp [hM]) (by rw [List.append_assoc]; exact hR2)
      have hp := (show ((j : Int) < (ws.length : Int)) = True ∧ (j < ws.length) = True ∧ (ws.map iTr).length = ws.length ∧ (ws.map iTr)[j]? = some [.v (.int .i64 e)] ∧ IntKind.i64.wrap ((j : Int) + 1) = ((j + 1 : Nat) : Int) ∧ (M.length + 1 ≤ maxLen) = True ∧ ((M.length + 1) * 8 ≤ 140737488355328) = True from
        ⟨eq_true (by omega), eq_true hj, by simp, by rw [List.getElem?_map, he]; rfl, by rw [wrapN (by omega) (by omega)]; rfl, eq_true (by unfold maxLen; omega), eq_true (by omega)⟩)
      clear ih
      refine amR_succ ?_
      refine wk1 ?_
      refine amR_tidy [(1, 1), (2, 2), (3, 3), (4, 4), (7, 5)] [2, 4, 5, 7] 6 rfl ?_
      refine go1 ?_
      refine amR_st ?_ ihk
      simp [iTr]
  | cons e r ih =>
    intro k L X hL hR hX hXk
    have he : ps[k]? = some e := by rw [← hR]; exact mid_get _ _ hL _
    have hk := (List.getElem?_eq_some_iff.1 he).1
    have hbe := hb e (List.mem_of_getElem? he)
    have base := (show ((k : Int) < (ps.length : Int)) = True ∧ (k < ps.length) = True ∧ (ps.map Pk.tr).length = ps.length ∧ (ps.map Pk.tr)[k]? = some e.tr ∧ IntKind.i64.wrap ((k : Int) + 1) = ((k + 1 : Nat) : Int) ∧ (X.length + 1 ≤ maxLen) = True ∧ ((X.length + 1) * 48 ≤ 140737488355328) = True ∧ (e.bytes.length ≤ 1048576) = True from
      ⟨eq_true (by omega), eq_true hk, by simp, by rw [List.getElem?_map, he]; rfl, by rw [wrapN (by omega) (by omega)]; rfl, eq_true (by unfold maxLen; omega), eq_true (by omega), eq_true hbe⟩)
    simp only [skGo] at hX
    by_cases c : (k : Int) = s
    · rw [if_pos c] at hX
      have ihk := ih (k + 1) (L ++ [e]) X (by simp [hL]) (by rw [List.append_assoc]; exact hR) hX (by omega)
      clear ih
      have hp := And.intro base (show ((k : Int) != s) = false ∧ ((k : Int) = s) = True from ⟨by simp [c], eq_true c⟩)
      refine amR_succ ?_
      refine wk1 ?_
      refine amR_tidy [(1, 1), (2, 2), (3, 3), (4, 4), (5, 5)] [1, 2, 4, 5, 6] 6 rfl ?_
      refine go1 ?_
      exact ihk
    · rw [if_neg c] at hX
      have ihk := ih (k + 1) (L ++ [e]) (X ++ [e]) (by simp [hL]) (by rw [List.append_assoc]; exact hR) (by rw [List.append_assoc]; exact hX) (by simp; omega)
      clear ih
      have hp := And.intro base (show ((k : Int) != s) = true ∧ ((k : Int) = s) = False from ⟨by simp [c], eq_false c⟩)
      obtain ⟨ea, eb, ec, ev⟩ := e
      simp only [Pk.tr] at hp
      refine amR_succ ?_
      refine wk1 ?_
      refine amR_tidy [(1, 1), (2, 2), (3, 3), (7, 4), (5, 5)] [1, 2, 4, 5, 6] 6 rfl ?_
      refine go1 ?_
      refine amR_st ?_ ihk
      simp [Pk.tr]
theorem copyF_tc (l : List Int) (h : l.length ≤ 1048576) : TC Try.prog 67 [ro 1 (l.map bTr)] [] 1 (ro 1 (l.map bTr)) [] 1 := by
  have := tc_frzR (copyS_tc l (by omega))
  simpa [TV.frz, TV.frz1, CV.frz] using this
def ki1_0_1 (l : List Int) : Option TV := if l.length ≤ 1048576 then some (ro 1 (l.map bTr)) else none
def ki1_0_0 (r0 : List (List Tree)) : Option TV := (unBys r0).bind (ki1_0_1)
def ki1_0 : List TV → Option TV
  | [.c (.t (.sl 1 r0))] => ki1_0_0 r0
  | _ => none
def ki1_call (f : FuncId) (args : List TV) : Option TV := if f = 67 then orO (ki1_0 args) (ke2.call f args) else ke2.call f args
def ki1 : Kn := { call := ki1_call, eqs := eqTys, callB := ke2.callB }
attribute [go_sem] ki1_0_0 ki1_0_1 ki1_0 ki1_call ki1
theorem ki1_ok : ∀ f args res, ki1_call f args = some res → TC Try.prog f args [] 1 res [] 1 := by
  intro f args res h
  unfold ki1_call at h
  split at h
  · rename_i e; subst e
    have hh := orO_elim h
    clear h
    rcases hh with h | h
    rotate_left
    · exact kE2.call _ _ _ h
    unfold ki1_0 at h
    split at h
    · rename_i r0; unfold ki1_0_0 at h
      obtain ⟨l, e0, h⟩ := Option.bind_eq_some_iff.1 h
      unfold ki1_0_1 at h
      split at h
      · rename_i hc; cases h; rw [unBys_ok e0]; exact copyF_tc l hc
      · cases h
    · cases h
  · exact kE2.call f args res h
theorem kI1 : KnOk Try.prog ki1 := ⟨ki1_ok, eqTysOk, kE2.callB⟩
def ki2_0_1 (s : Int) (b : Bg) : CB := if bgOk b = true then some (.agg [ci b.nx, .own 1 0 (skF b.ps s).length, .own 2 0 b.ws.length], [(1, .arr 44 4 ((skF b.ps s).map Pk.tr)), (2, .arr 3 1 (b.ws.map iTr))], 3) else none
def ki2_0_0 (s : Int) (q0 : List CV) : CB := (unBg q0).bind (ki2_0_1 s)
def ki2_0 : List TV → List (Nat × AObj) → CB
  | [.agg q0, .c (.t (.v (.int .i64 s)))], [] => ki2_0_0 s q0
  | _, _ => none
def ki2_call (f : FuncId) (args : List TV) (o : List (Nat × AObj)) : CB := if f = 63 then orO (ki2_0 args o) (ki1.callB f args o) else ki1.callB f args o
def ki2 : Kn := { call := ki1.call, eqs := eqTys, callB := ki2_call }
attribute [go_sem] ki2_0_0 ki2_0_1 ki2_0 ki2_call ki2
theorem ki2_ok : ∀ f args o res o1 n1, ki2_call f args o = some (res, o1, n1) → TC Try.prog f args o (o.length + 1) res o1 n1 := by
  intro f args o res o1 n1 h
  unfold ki2_call at h
  split at h
  · rename_i e; subst e
    have hh := orO_elim h
    clear h
    rcases hh with h | h
    rotate_left
    · exact kI1.callB _ _ _ _ _ _ h
    unfold ki2_0 at h
    split at h
    · rename_i q0 s; unfold ki2_0_0 at h
      have hb0 := Option.bind_eq_some_iff.1 h
      clear h
      obtain ⟨b, e0, h⟩ := hb0
      unfold ki2_0_1 at h
      split at h
      · rename_i hc; cases h; rw [unBg_ok e0]; exact cpO_tc b s hc
      · cases h
    · cases h
  · exact kI1.callB f args o res o1 n1 h
theorem kI2 : KnOk Try.prog ki2 := ⟨kI1.call, eqTysOk, ki2_ok⟩
theorem putS0_tc (b : Bg) (f t : Int) (l : List Int) (h : bgOk b = true) (hl : l.length ≤ 1048576) (hf : bgF b.nx b.ps b.ws = false) : TC Try.prog 11 [.agg b.cv, int f, int t, ro 1 (l.map bTr)] [] 1 pa0 [] 1 := by
  refine tc_cell tabOk Try.func11 rfl 78 rfl (Nat.le_of_ble_eq_true rfl) (by decide) [(8, some 32)] rfl (by intro id x h; cases h) ?_
  intro w0 E0
  have kOk := kI2
  obtain ⟨n, ps, ws⟩ := b
  simp only [Bg.cv, pa0]
  simp only at hf
  have hp := And.intro h hf
  refine wk1 ?_
  refine am_retC [] rfl ?_ rfl rfl
  first | rfl | (refine go ?_; rfl)
set_option maxHeartbeats 32000000 in
theorem putS1_tc (b : Bg) (f t : Int) (l : List Int) (h : bgOk b = true) (hl : l.length ≤ 1048576) (hf : bgF b.nx b.ps b.ws = true) (hc : ptC b f t l ≠ 0) : TC Try.prog 11 [.agg b.cv, int f, int t, ro 1 (l.map bTr)] [] 1 (.agg [ci (ptC b f t l), ci 0, ci b.nx, .t (.sl 4 (b.ps.map Pk.tr)), .t (.sl 1 (b.ws.map iTr))]) [] 1 := by
  refine tc_cell tabOk Try.func11 rfl 78 rfl (Nat.le_of_ble_eq_true rfl) (by decide) [(8, some 32)] rfl (by intro id x h; cases h) ?_
  intro w0 E0
  have kOk := kI2
  obtain ⟨n, ps, ws⟩ := b
  have hb := h
  simp only [bgOk, Bool.and_eq_true, decide_eq_true_eq] at hb
  obtain ⟨p1, p2, p3⟩ := of_decide_eq_true hb.1
  simp only [Bg.cv]
  simp only at hf hb
  unfold ptC at hc ⊢
  have base := And.intro h (And.intro hf (And.intro (skF_neg ps) (show (ws.length ≤ 1048576) = True ∧ (l.map bTr).length = l.length ∧ (ps.map Pk.tr).length = ps.length ∧ (ws.map iTr).length = ws.length from ⟨eq_true hb.2, by simp, by simp, by simp⟩)))
  by_cases c1 : rtB f t l.length = false
  · rw [if_pos c1]
    by_cases d1 : adB f = true
    rotate_left
    · have hp := And.intro base (show adB f = false from by simpa using d1)
      refine wk1 ?_
      refine am_frz 3 rfl (Nat.le_of_ble_eq_true rfl) (by decide) ?_
      refine go1 ?_
      refine am_frz 4 rfl (Nat.le_of_ble_eq_true rfl) (by decide) ?_
      refine go1 ?_
      refine am_retC [] rfl ?_ ?_ rfl <;> first | rfl | (refine go ?_; rfl) | (refine go ?_; simp [Pk.tr]; done)
    by_cases d2 : adB t = true
    rotate_left
    · have hp := And.intro base (show adB f = true ∧ adB t = false from ⟨d1, by simpa using d2⟩)
      refine wk1 ?_
      refine am_frz 3 rfl (Nat.le_of_ble_eq_true rfl) (by decide) ?_
      refine go1 ?_
      refine am_frz 4 rfl (Nat.le_of_ble_eq_true rfl) (by decide) ?_
      refine go1 ?_
      refine am_retC [] rfl ?_ ?_ rfl <;> first | rfl | (refine go ?_; rfl) | (refine go ?_; simp [Pk.tr]; done)
    by_cases d3 : f = t
    · have hp := And.intro base (show adB f = true ∧ adB t = true ∧ (f == t) = true ∧ (f = t) = True from ⟨d1, d2, by simp [d3], eq_true d3⟩)
      refine wk1 ?_
      refine am_frz 3 rfl (Nat.le_of_ble_eq_true rfl) (by decide) ?_
      refine go1 ?_
      refine am_frz 4 rfl (Nat.le_of_ble_eq_true rfl) (by decide) ?_
      refine go1 ?_
      refine am_retC [] rfl ?_ ?_ rfl <;> first | rfl | (refine go ?_; rfl) | (refine go ?_; simp [Pk.tr]; done)
    have d4 : inB (l.length : Nat) 1 16384 = false := by
      cases e : inB (l.length : Nat) 1 16384 with
      | false => rfl
      | true => exfalso; simp [rtB, d1, d2, d3, e] at c1
    have hp := And.intro base (show adB f = true ∧ adB t = true ∧ (f == t) = false ∧ (f = t) = False ∧ inB (l.length : Nat) 1 16384 = false from ⟨d1, d2, by simp [d3], eq_false d3, d4⟩)
    refine wk1 ?_
    refine am_frz 3 rfl (Nat.le_of_ble_eq_true rfl) (by decide) ?_
    refine go1 ?_
    refine am_frz 4 rfl (Nat.le_of_ble_eq_true rfl) (by decide) ?_
    refine go1 ?_
    refine am_retC [] rfl ?_ ?_ rfl <;> first | rfl | (refine go ?_; rfl) | (refine go ?_; simp [Pk.tr]; done)
  rw [if_neg c1] at hc ⊢
  have c1' : rtB f t l.length = true := by simpa using c1
  simp only [rtB, Bool.and_eq_true, bne_iff_ne, ne_eq] at c1'
  have base1 := And.intro base (show adB f = true ∧ adB t = true ∧ (f == t) = false ∧ (f = t) = False ∧ inB (l.length : Nat) 1 16384 = true from ⟨c1'.1.1.1, c1'.1.1.2, by simp [c1'.1.2], eq_false c1'.1.2, c1'.2⟩)
  by_cases c2 : f ∈ ws
  · rw [if_pos (.inl c2)]
    have hp := And.intro base1 (show decide (f ∈ ws) = true ∧ (f ∈ ws) = True from ⟨by simp [c2], eq_true c2⟩)
    refine wk1 ?_
    refine am_frz 3 rfl (Nat.le_of_ble_eq_true rfl) (by decide) ?_
    refine go1 ?_
    refine am_frz 4 rfl (Nat.le_of_ble_eq_true rfl) (by decide) ?_
    refine go1 ?_
    refine am_retC [] rfl ?_ ?_ rfl <;> first | rfl | (refine go ?_; rfl) | (refine go ?_; simp [Pk.tr]; done)
  have base2 := And.intro base1 (show decide (f ∈ ws) = false ∧ (f ∈ ws) = False from ⟨by simp [c2], eq_false c2⟩)
  by_cases c3 : t ∈ ws
  · rw [if_pos (.inr c3)]
    have hp := And.intro base2 (show decide (t ∈ ws) = true ∧ (t ∈ ws) = True from ⟨by simp [c3], eq_true c3⟩)
    refine wk1 ?_
    refine am_frz 3 rfl (Nat.le_of_ble_eq_true rfl) (by decide) ?_
    refine go1 ?_
    refine am_frz 4 rfl (Nat.le_of_ble_eq_true rfl) (by decide) ?_
    refine go1 ?_
    refine am_retC [] rfl ?_ ?_ rfl <;> first | rfl | (refine go ?_; rfl) | (refine go ?_; simp [Pk.tr]; done)
  rw [if_neg (by rintro (h | h); exact c2 h; exact c3 h)] at hc ⊢
  have base3 := And.intro base2 (show decide (t ∈ ws) = false ∧ (t ∈ ws) = False from ⟨by simp [c3], eq_false c3⟩)
  simp only at hc ⊢
  by_cases c4 : ps.length = 4096
  · rw [if_pos (.inl c4)]
    have hp := And.intro base3 (show ((ps.length : Int) == 4096) = true ∧ ((ps.length : Int) = 4096) = True from ⟨by simp [c4], eq_true (by omega)⟩)
    refine wk1 ?_
    refine am_frz 3 rfl (Nat.le_of_ble_eq_true rfl) (by decide) ?_
    refine go1 ?_
    refine am_frz 4 rfl (Nat.le_of_ble_eq_true rfl) (by decide) ?_
    refine go1 ?_
    refine am_retC [] rfl ?_ ?_ rfl <;> first | rfl | (refine go ?_; rfl) | (refine go ?_; simp [Pk.tr]; done)
  have e4 : ¬ (ps.length : Int) = 4096 := by omega
  by_cases c5 : n = 1099511627776
  · rw [if_pos (.inr c5)]
    have hp := And.intro base3 (show ((ps.length : Int) == 4096) = false ∧ ((ps.length : Int) = 4096) = False ∧ (n == 1099511627776) = true ∧ (n = 1099511627776) = True from ⟨by simp [e4], eq_false e4, by simp [c5], eq_true c5⟩)
    refine wk1 ?_
    refine am_frz 3 rfl (Nat.le_of_ble_eq_true rfl) (by decide) ?_
    refine go1 ?_
    refine am_frz 4 rfl (Nat.le_of_ble_eq_true rfl) (by decide) ?_
    refine go1 ?_
    refine am_retC [] rfl ?_ ?_ rfl <;> first | rfl | (refine go ?_; rfl) | (refine go ?_; simp [Pk.tr]; done)
  exact absurd (if_neg (by rintro (h | h); exact c4 h; exact c5 h)) hc
set_option maxHeartbeats 32000000 in
theorem putS2_tc (b : Bg) (f t : Int) (l : List Int) (h : bgOk b = true) (hl : l.length ≤ 1048576) (hf : bgF b.nx b.ps b.ws = true) (hc : ptC b f t l = 0) : TC Try.prog 11 [.agg b.cv, int f, int t, ro 1 (l.map bTr)] [] 1 (.agg [ci 0, ci b.nx, ci (b.nx + 1), .t (.sl 4 ((b.ps ++ [(⟨b.nx, f, t, l⟩ : Pk)]).map Pk.tr)), .t (.sl 1 (b.ws.map iTr))]) [] 1 := by
  refine tc_cell tabOk Try.func11 rfl 78 rfl (Nat.le_of_ble_eq_true rfl) (by decide) [(8, some 32)] rfl (by intro id x h; cases h) ?_
  intro w0 E0
  have kOk := kI2
  obtain ⟨n, ps, ws⟩ := b
  have hb := h
  simp only [bgOk, Bool.and_eq_true, decide_eq_true_eq] at hb
  obtain ⟨p1, p2, p3⟩ := of_decide_eq_true hb.1
  simp only [Bg.cv]
  simp only at hf hb
  unfold ptC at hc
  have c1 : rtB f t l.length = true := by
    cases e : rtB f t l.length with
    | true => rfl
    | false => rw [if_pos e] at hc; cases hc
  rw [if_neg (by simp [c1])] at hc
  have c2 : ¬ (f ∈ ws ∨ t ∈ ws) := fun e => by rw [if_pos e] at hc; cases hc
  rw [if_neg c2] at hc
  have c4 : ¬ (ps.length = 4096 ∨ n = 1099511627776) := fun e => by rw [if_pos e] at hc; cases hc
  have e4 : ¬ (ps.length : Int) = 4096 := by omega
  have e5 : ¬ n = 1099511627776 := fun e => c4 (.inr e)
  have hn : 1 ≤ n ∧ n ≤ 1099511627776 := by
    simp only [bgF, Bool.and_eq_true, inB, decide_eq_true_eq] at hf
    omega
  have c1' := c1
  simp only [rtB, Bool.and_eq_true, bne_iff_ne, ne_eq] at c1'
  have hp := And.intro (And.intro h (And.intro hf (And.intro (skF_neg ps) (show (ws.length ≤ 1048576) = True ∧ (l.map bTr).length = l.length ∧ (ps.map Pk.tr).length = ps.length ∧ (ws.map iTr).length = ws.length from ⟨eq_true hb.2, by simp, by simp, by simp⟩))))
    (And.intro (show adB f = true ∧ adB t = true ∧ (f == t) = false ∧ (f = t) = False ∧ inB (l.length : Nat) 1 16384 = true from ⟨c1'.1.1.1, c1'.1.1.2, by simp [c1'.1.2], eq_false c1'.1.2, c1'.2⟩)
    (show decide (f ∈ ws) = false ∧ (f ∈ ws) = False ∧ decide (t ∈ ws) = false ∧ (t ∈ ws) = False ∧ ((ps.length : Int) == 4096) = false ∧ ((ps.length : Int) = 4096) = False ∧ (n == 1099511627776) = false ∧ (n = 1099511627776) = False ∧ IntKind.i64.wrap (n + 1) = n + 1 ∧ (l.length ≤ 1048576) = True ∧ (ps.length + 1 ≤ maxLen) = True ∧ ((ps.length + 1) * 48 ≤ 140737488355328) = True ∧ (∀ y : List Tree, (ps.map Pk.tr ++ [y]).length = ps.length + 1) from
    ⟨by simpa using fun e => c2 (.inl e), eq_false fun e => c2 (.inl e), by simpa using fun e => c2 (.inr e), eq_false fun e => c2 (.inr e), by simp [e4], eq_false e4, by simp [e5], eq_false e5, wrapN (by omega) (by omega), eq_true hl, eq_true (by unfold maxLen; omega), eq_true (by omega), fun y => by simp⟩))
  refine wk1 ?_
  refine am_frz 7 rfl (Nat.le_of_ble_eq_true rfl) (by decide) ?_
  refine go1 ?_
  refine am_frz 4 rfl (Nat.le_of_ble_eq_true rfl) (by decide) ?_
  refine go1 ?_
  refine am_retC [] rfl ?_ ?_ rfl <;> first | rfl | (refine go ?_; rfl) | (refine go ?_; simp [Pk.tr]; done)
end Go.Proofs.YthnpbfljoghbmaaA
