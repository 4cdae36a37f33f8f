/- Tables: the two functions, the program's and the reference's. -/
import Derived.Test.YthnpbfljoghbmaaCPure
namespace Go.Proofs.YthnpbfljoghbmaaA
open Go.Proofs
set_option autoImplicit false
set_option linter.unusedVariables false
set_option linter.unusedSimpArgs false
set_option maxRecDepth 4000
theorem nil_sl {E : Env} {w : World} {v : Value} (sz : Nat) (h : RC E w v (.t (.v (.slice none 0 0)))) : RC E w v (.t (.sl sz [])) := by
  have m5 : RO w (fun b o => E.own b o = none) v (.v (.slice none 0 0)) := h
  cases m5
  exact RO.sl none 0 sz [] 0 0 (fun _ _ => .bool false) (Nat.le_refl _) (Nat.zero_le _) (fun x hx => by cases hx) (fun h => (h rfl).elim) (fun i j hi => absurd hi (Nat.not_lt_zero _)) (fun i x hx => by simp at hx)
theorem tc_args {P : Program} {f : FuncId} {args args' : List TV} {o0 o1 : List (Nat × AObj)} {n0 n1 : Nat} {res : TV} (h : TC P f args o0 n0 res o1 n1) (ha : ∀ (E : Env) (w : World) (vs : List Value), All2 (RT E w) vs args' → All2 (RT E w) vs args) : TC P f args' o0 n0 res o1 n1 :=
  ⟨h.1, fun E w vs hvs hobjs hnext hzero hfresh hown hpre => h.2 E w vs (ha E w vs hvs) hobjs hnext hzero hfresh hown hpre⟩
abbrev nl : CV := .t (.v (.slice none 0 0))
theorem newT0_tc : TC Try.prog 105 [.agg [nl, nl]] [] 1 (.c (.ptr 1 0)) [(1, .cells [.mp 2, .mp 3]), (2, .mp none (([] : List Pr).map entP)), (3, .mp (some .i64) (([] : List Ss).map entS))] 4 := by
  refine tc_args (newT_tc [] [] (by simp) (by simp)) fun E w vs hvs => ?_
  match vs, hvs with
  | [v], ⟨g1, _⟩ =>
    obtain ⟨us, h1, h2⟩ := rtA g1
    match us, h2 with
    | [a, b], ⟨k1, k2, _⟩ => exact ⟨⟨[a, b], h1, nil_sl 2 k1, nil_sl 4 k2, trivial⟩, trivial⟩
instance (l s : List Pr) : Decidable (RpP l s) := decidable_of_iff (l.Perm s ∧ s.Pairwise fun a b : Pr => tlt a.k b.k) ⟨fun h => ⟨h.1, h.2⟩, fun h => ⟨h.perm, h.srt⟩⟩
instance (l s : List Ss) : Decidable (RpS l s) := decidable_of_iff (l.Perm s ∧ s.Pairwise fun a b : Ss => a.cl < b.cl) ⟨fun h => ⟨h.1, h.2⟩, fun h => ⟨h.perm, h.srt⟩⟩
def kt7_0_0  : CB := some (.c (.ptr 1 0), [(1, .cells [.mp 2, .mp 3]), (2, .mp none (([] : List Pr).map entP)), (3, .mp (some .i64) (([] : List Ss).map entS))], 4)
def kt7_0 : List TV → List (Nat × AObj) → CB
  | [.agg [.t (.v (.slice none 0 0)), .t (.v (.slice none 0 0))]], [] => kt7_0_0
  | _, _ => none
def kt7_1_2 (l : List Pr) (m : List Ss) : CB := if RpP l (tellP l) ∧ RpS m (tellS m) ∧ okP l = true ∧ okS m = true then some (.agg [.own 4 0 (tellP l).length, .own 5 0 (tellS m).length], [(1, .cells [.mp 2, .mp 3]), (2, .mp none (l.map entP)), (3, .mp (some .i64) (m.map entS)), (4, .arr 206 2 ((tellP l).map Pr.tr)), (5, .arr 192 4 ((tellS m).map Ss.tr))], 6) else none
def kt7_1_1 (r1 : List (Value × Value)) (l : List Pr) : CB := (unSss r1).bind (kt7_1_2 l)
def kt7_1_0 (r0 : List (Value × Value)) (r1 : List (Value × Value)) : CB := (unPrs r0).bind (kt7_1_1 r1)
def kt7_1 : List TV → List (Nat × AObj) → CB
  | [.c (.ptr 1 0)], [(1, .cells [.mp 2, .mp 3]), (2, .mp none r0), (3, .mp (some .i64) r1)] => kt7_1_0 r0 r1
  | _, _ => none
def kt7_call (f : FuncId) (args : List TV) (o : List (Nat × AObj)) : CB := if f = 105 then orO (kt7_0 args o) (kt6.callB f args o) else if f = 114 then orO (kt7_1 args o) (kt6.callB f args o) else kt6.callB f args o
def kt7 : Kn := { call := kt6.call, eqs := eqTys, callB := kt7_call }
attribute [go_sem] kt7_0_0 kt7_0 kt7_1_0 kt7_1_1 kt7_1_2 kt7_1 kt7_call kt7
theorem kt7_ok : ∀ f args o res o1 n1, kt7_call f args o = some (res, o1, n1) → TC Try.prog f args o (o.length + 1) res o1 n1 := by
  intro f args o res o1 n1 h
  unfold kt7_call at h
  split at h
  · rename_i e; subst e
    have hh := orO_elim h
    clear h
    rcases hh with h | h
    rotate_left
    · exact kT6.callB _ _ _ _ _ _ h
    unfold kt7_0 at h
    split at h
    · unfold kt7_0_0 at h
      cases h; exact newT0_tc
    · cases h
  split at h
  · rename_i e; subst e
    have hh := orO_elim h
    clear h
    rcases hh with h | h
    rotate_left
    · exact kT6.callB _ _ _ _ _ _ h
    unfold kt7_1 at h
    split at h
    · rename_i r0 r1; unfold kt7_1_0 at h
      have hb0 := Option.bind_eq_some_iff.1 h
      clear h
      obtain ⟨l, e0, h⟩ := hb0
      unfold kt7_1_1 at h
      have hb1 := Option.bind_eq_some_iff.1 h
      clear h
      obtain ⟨m, e1, h⟩ := hb1
      unfold kt7_1_2 at h
      split at h
      · rename_i hc; cases h; rw [unPrs_ok e0, unSss_ok e1]; exact tell_tc l _ m _ hc.1 hc.2.1 hc.2.2.1 hc.2.2.2
      · cases h
    · cases h
  · exact kT6.callB f args o res o1 n1 h
theorem kT7 : KnOk Try.prog kt7 := ⟨kT6.call, eqTysOk, kt7_ok⟩
def kt8_0_1 (t : Tb) : CB := if tbOk t = true then some (.c (.ptr 1 0), [(1, .cells [.mp 2, .mp 3]), (2, .mp none ((mkP t.ps).map entP)), (3, .mp (some .i64) ((mkS t.ss).map entS))], 4) else none
def kt8_0_0 (r0 : List CV) : CB := (unTb r0).bind (kt8_0_1)
def kt8_0 : List TV → List (Nat × AObj) → CB
  | [.agg r0], [] => kt8_0_0 r0
  | _, _ => none
def kt8_call (f : FuncId) (args : List TV) (o : List (Nat × AObj)) : CB := if f = 105 then orO (kt8_0 args o) (kt7.callB f args o) else kt7.callB f args o
def kt8 : Kn := { call := kt7.call, eqs := eqTys, callB := kt8_call }
attribute [go_sem] kt8_0_0 kt8_0_1 kt8_0 kt8_call kt8
theorem kt8_ok : ∀ f args o res o1 n1, kt8_call f args o = some (res, o1, n1) → TC Try.prog f args o (o.length + 1) res o1 n1 := by
  intro f args o res o1 n1 h
  unfold kt8_call at h
  split at h
  · rename_i e; subst e
    have hh := orO_elim h
    clear h
    rcases hh with h | h
    rotate_left
    · exact kT7.callB _ _ _ _ _ _ h
    unfold kt8_0 at h
    split at h
    · rename_i r0; unfold kt8_0_0 at h
      have hb0 := Option.bind_eq_some_iff.1 h
      clear h
      obtain ⟨t, e0, h⟩ := hb0
      unfold kt8_0_1 at h
      split at h
      · rename_i hc; cases h; rw [unTb_ok e0]; exact newT_tc t.ps t.ss (tbOk_ok hc).1 (tbOk_ok hc).2
      · cases h
    · cases h
  · exact kT7.callB f args o res o1 n1 h
theorem kT8 : KnOk Try.prog kt8 := ⟨kT7.call, eqTysOk, kt8_ok⟩
def kt9_0_1 (t : Tb) : Option TV := if tbOk t = true then some (bool (tbF t.ps t.ss)) else none
def kt9_0_0 (r0 : List CV) : Option TV := (unTb r0).bind (kt9_0_1)
def kt9_0 : List TV → Option TV
  | [.agg r0] => kt9_0_0 r0
  | _ => none
def kt9_call (f : FuncId) (args : List TV) : Option TV := if f = 130 then orO (kt9_0 args) (kt8.call f args) else kt8.call f args
def kt9 : Kn := { call := kt9_call, eqs := eqTys, callB := kt8.callB }
attribute [go_sem] kt9_0_0 kt9_0_1 kt9_0 kt9_call kt9
theorem kt9_ok : ∀ f args res, kt9_call f args = some res → TC Try.prog f args [] 1 res [] 1 := by
  intro f args res h
  unfold kt9_call at h
  split at h
  · rename_i e; subst e
    have hh := orO_elim h
    clear h
    rcases hh with h | h
    rotate_left
    · exact kT8.call _ _ _ h
    unfold kt9_0 at h
    split at h
    · rename_i r0; unfold kt9_0_0 at h
      obtain ⟨t, e0, h⟩ := Option.bind_eq_some_iff.1 h
      unfold kt9_0_1 at h
      split at h
      · rename_i hc; cases h; rw [unTb_ok e0]; exact tbI_tc t.ps t.ss (tbOk_ok hc).1 (tbOk_ok hc).2
      · cases h
    · cases h
  · exact kT8.call f args res h
theorem kT9 : KnOk Try.prog kt9 := ⟨kt9_ok, eqTysOk, kT8.callB⟩
def ansF (t : Tb) (c : Cm) : An := if cmF c = 0 then refF t c else ⟨8, 0, ⟨#[]⟩, t⟩
def an9 : List CV := [ci 9, ci 0, cs ⟨#[]⟩, nl, nl]
theorem apS9_tc (t : Tb) (c : Cm) (ht : tbOk t = true) (h : tbF t.ps t.ss = false) : TC Try.prog 53 [.agg t.cv, .agg c.cv] [] 1 (.agg an9) [] 1 := by
  refine tc_cell tabOk Try.func53 rfl 18 rfl (Nat.le_of_ble_eq_true rfl) (by decide) [(4, some 94)] rfl (by intro id x h; cases h) ?_
  intro w0 E0
  have kOk := kT9
  obtain ⟨s, u⟩ := t
  obtain ⟨a, q, o, x, y, z⟩ := c
  simp only at h
  simp only [Cm.cv, Tb.cv]
  have hp := And.intro ht h
  refine wk1 ?_
  refine am_retC [] rfl ?_ rfl rfl
  first | rfl | (refine go ?_; rfl)
theorem apS_tc (t : Tb) (c : Cm) (ht : tbOk t = true) (h : tbF t.ps t.ss = true) : TC Try.prog 53 [.agg t.cv, .agg c.cv] [] 1 (.agg (ansF t c).cv) [] 1 := by
  have ht2 := (inv_mk h).tb
  refine tc_cell tabOk Try.func53 rfl 18 rfl (Nat.le_of_ble_eq_true rfl) (by decide) [(4, some 94)] rfl (by intro id x h; cases h) ?_
  intro w0 E0
  have kOk := kT9
  obtain ⟨s, u⟩ := t
  simp only at h
  by_cases hc : cmF c = 0
  · have e : ansF ⟨s, u⟩ c = refF ⟨s, u⟩ c := if_pos hc
    rw [e]
    obtain ⟨a, q, o, x, y, z⟩ := c
    simp only [Cm.cv, Tb.cv]
    have hp := And.intro ht (And.intro ht2 (And.intro h (show (cmF ⟨a, q, o, x, y, z⟩ != 0) = false from by simpa using hc)))
    refine wk1 ?_
    refine am_retC [] rfl ?_ rfl rfl
    first | rfl | (refine go ?_; rfl)
  · have e : ansF ⟨s, u⟩ c = ⟨8, 0, ⟨#[]⟩, ⟨s, u⟩⟩ := if_neg hc
    rw [e]
    obtain ⟨a, q, o, x, y, z⟩ := c
    simp only [Cm.cv, Tb.cv]
    have hp := And.intro ht (And.intro ht2 (And.intro h (show (cmF ⟨a, q, o, x, y, z⟩ != 0) = true from by simpa using hc)))
    refine wk1 ?_
    refine am_retC [] rfl ?_ rfl rfl
    first | rfl | (refine go ?_; rfl)
theorem apI9_tc (t : Tb) (c : Cm) (ht : tbOk t = true) (h : tbF t.ps t.ss = false) : TC Try.prog 56 [.agg t.cv, .agg c.cv] [] 1 (.agg an9) [] 1 := by
  refine tc_cell tabOk Try.func56 rfl 31 rfl (Nat.le_of_ble_eq_true rfl) (by decide) [(4, some 94)] rfl (by intro id x h; cases h) ?_
  intro w0 E0
  have kOk := kT9
  obtain ⟨s, u⟩ := t
  obtain ⟨a, q, o, x, y, z⟩ := c
  simp only at h
  simp only [Cm.cv, Tb.cv]
  have hp := And.intro ht h
  refine wk1 ?_
  refine am_retC [] rfl ?_ rfl rfl
  first | rfl | (refine go ?_; rfl)
/-- An answer whose two rows are the call's own. -/
def An.ow (a : An) : List CV := [ci a.co, ci a.re, cs a.v, .own 1 0 a.t.ps.length, .own 2 0 a.t.ss.length]
def Tb.rows (t : Tb) : List (Nat × AObj) := [(1, .arr 206 2 (t.ps.map Pr.tr)), (2, .arr 192 4 (t.ss.map Ss.tr))]
set_option maxHeartbeats 16000000 in
theorem apI_tc (t : Tb) (c : Cm) (ht : tbOk t = true) (h : tbF t.ps t.ss = true) : TC Try.prog 56 [.agg t.cv, .agg c.cv] [] 1 (.agg (ansF t c).ow) (ansF t c).t.rows 3 := by
  have hi := inv_mk h
  obtain ⟨s, u⟩ := t
  simp only at h hi
  by_cases hc : cmF c = 0
  · have e : ansF ⟨s, u⟩ c = refF ⟨s, u⟩ c := if_pos hc
    rw [e]
    obtain ⟨g1, g2⟩ := car_ok hi hc
    simp only [An.ow, Tb.rows]
    refine tc_cell tabOk Try.func56 rfl 31 rfl (Nat.le_of_ble_eq_true rfl) (by decide) [(4, some 94)] rfl (by intro id x h; cases h) ?_
    intro w0 E0
    have kOk := kT9
    obtain ⟨a, q, o, x, y, z⟩ := c
    simp only [Cm.cv, Tb.cv]
    have hp := (show tbOk ⟨s, u⟩ = true ∧ tbF s u = true ∧ (cmF ⟨a, q, o, x, y, z⟩ == 0) = true ∧ (carF (mkP s) (mkS u) ⟨a, q, o, x, y, z⟩).1 = ((refF ⟨s, u⟩ ⟨a, q, o, x, y, z⟩).co, (refF ⟨s, u⟩ ⟨a, q, o, x, y, z⟩).re, (refF ⟨s, u⟩ ⟨a, q, o, x, y, z⟩).v) ∧
        tellP (carF (mkP s) (mkS u) ⟨a, q, o, x, y, z⟩).2.1 = (refF ⟨s, u⟩ ⟨a, q, o, x, y, z⟩).t.ps ∧ tellS (carF (mkP s) (mkS u) ⟨a, q, o, x, y, z⟩).2.2 = (refF ⟨s, u⟩ ⟨a, q, o, x, y, z⟩).t.ss ∧
        (RpP (carF (mkP s) (mkS u) ⟨a, q, o, x, y, z⟩).2.1 (refF ⟨s, u⟩ ⟨a, q, o, x, y, z⟩).t.ps) = True ∧ (RpS (carF (mkP s) (mkS u) ⟨a, q, o, x, y, z⟩).2.2 (refF ⟨s, u⟩ ⟨a, q, o, x, y, z⟩).t.ss) = True ∧
        okP (carF (mkP s) (mkS u) ⟨a, q, o, x, y, z⟩).2.1 = true ∧ okS (carF (mkP s) (mkS u) ⟨a, q, o, x, y, z⟩).2.2 = true from
      ⟨ht, h, by simpa using hc, g1, tellP_of g2.p, tellS_of g2.s, eq_true g2.p, eq_true g2.s, g2.okP, g2.okS⟩)
    refine wk1 ?_
    refine am_retC [(8, 1), (9, 2)] rfl ?_ rfl rfl
    first | rfl | (refine go ?_; rfl)
  · have e : ansF ⟨s, u⟩ c = ⟨8, 0, ⟨#[]⟩, ⟨s, u⟩⟩ := if_neg hc
    rw [e]
    simp only [An.ow, Tb.rows]
    refine tc_cell tabOk Try.func56 rfl 31 rfl (Nat.le_of_ble_eq_true rfl) (by decide) [(4, some 94)] rfl (by intro id x h; cases h) ?_
    intro w0 E0
    have kOk := kT9
    obtain ⟨a, q, o, x, y, z⟩ := c
    simp only [Cm.cv, Tb.cv]
    have hp := (show tbOk ⟨s, u⟩ = true ∧ tbF s u = true ∧ (cmF ⟨a, q, o, x, y, z⟩ == 0) = false ∧ tellP (mkP s) = s ∧ tellS (mkS u) = u ∧ (RpP (mkP s) s) = True ∧ (RpS (mkS u) u) = True ∧ okP (mkP s) = true ∧ okS (mkS u) = true from
      ⟨ht, h, by simpa using hc, tellP_of hi.p, tellS_of hi.s, eq_true hi.p, eq_true hi.s, hi.okP, hi.okS⟩)
    refine wk1 ?_
    refine am_retC [(8, 1), (9, 2)] rfl ?_ rfl rfl
    first | rfl | (refine go ?_; rfl)
end Go.Proofs.YthnpbfljoghbmaaA
