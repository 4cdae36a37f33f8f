/- Bags: what the laws do with them. -/
import Derived.Test.YthnpbfljoghbmaaDMark
namespace Go.Proofs.YthnpbfljoghbmaaA
open Go.Proofs
set_option autoImplicit false
set_option linter.unusedVariables false
set_option linter.unusedSimpArgs false
set_option maxRecDepth 4000
theorem dom2 {o p : AObj} (id : Nat) (x : AObj) (h : look id [(1, o), (2, p)] = some x) : id < 3 := by
  simp only [look] at h
  split at h
  · omega
  split at h
  · omega
  · cases h
structure Bg where
  nx : Int
  ps : List Pk
  ws : List Int
deriving instance DecidableEq for Bg
def Bg.cv (b : Bg) : List CV := [ci b.nx, .t (.sl 4 (b.ps.map Pk.tr)), .t (.sl 1 (b.ws.map iTr))]
def unBg : List CV → Option Bg
  | [.t (.v (.int .i64 a)), .t (.sl 4 x), .t (.sl 1 y)] => (unPks x).bind fun p => (unInts y).map fun w => ⟨a, p, w⟩
  | _ => none
theorem unBg_ok {xs : List CV} {c : Bg} (h : unBg xs = some c) : xs = c.cv := by
  unfold unBg at h
  split at h
  · obtain ⟨p, h1, h2⟩ := Option.bind_eq_some_iff.1 h
    obtain ⟨w, h3, h4⟩ := Option.map_eq_some_iff.1 h2
    subst h4
    rw [unPks_ok h1, unInts_ok h3]
    rfl
  · cases h
attribute [go_sem] unBg Bg.cv
def bgBig (b : Bg) : Bool := pksBig b.ps
def bgOk (b : Bg) : Bool := pksOk b.ps && decide (b.ws.length ≤ 1048576)
theorem toIsF_tc (l : List Int) (h : l.length ≤ 1048576) : TC Try.prog 69 [ro 1 (l.map iTr)] [] 1 (ro 1 (l.map iTr)) [] 1 := by
  have := tc_frzR (toInts_tc l h)
  simpa [TV.frz, TV.frz1, CV.frz] using this
@[go_sem] theorem mkPks_selfT (l : List Pk) (k : Int) : (mkPks l k = mkPks (mkPks l k) k) = True := by rw [mkPks_self]; exact eq_true rfl
attribute [go_sem] pkSum_mk
def kd6_0_1 (l : List Pk) : Option TV := if pksOk l = true then some (ro 4 (l.map Pk.tr)) else none
def kd6_0_0 (r0 : List (List Tree)) : Option TV := (unPks r0).bind (kd6_0_1)
def kd6_0 : List TV → Option TV
  | [.c (.t (.sl 4 r0))] => kd6_0_0 r0
  | _ => none
def kd6_1_1 (l : List Int) : Option TV := if l.length ≤ 1048576 then some (ro 1 (l.map iTr)) else none
def kd6_1_0 (r0 : List (List Tree)) : Option TV := (unInts r0).bind (kd6_1_1)
def kd6_1 : List TV → Option TV
  | [.c (.t (.sl 1 r0))] => kd6_1_0 r0
  | _ => none
def kd6_2_2 (l : List Pk) (r : List Pk) : Option TV := if pksOk l = true then some (bool (decide (l = r))) else none
def kd6_2_1 (r1 : List (List Tree)) (l : List Pk) : Option TV := (unPks r1).bind (kd6_2_2 l)
def kd6_2_0 (r0 : List (List Tree)) (r1 : List (List Tree)) : Option TV := (unPks r0).bind (kd6_2_1 r1)
def kd6_2 : List TV → Option TV
  | [.c (.t (.sl 4 r0)), .c (.t (.sl 4 r1))] => kd6_2_0 r0 r1
  | _ => none
def kd6_3_1 (k : Int) (a : List Pk) : Option TV := if a = mkPks a k ∧ 0 ≤ k ∧ k + (pkSum a : Nat) ≤ 1099511627776 then some (int (k + (pkSum a : Nat))) else none
def kd6_3_0 (k : Int) (r0 : List (List Tree)) : Option TV := (unPks r0).bind (kd6_3_1 k)
def kd6_3 : List TV → Option TV
  | [.c (.t (.sl 4 r0)), .c (.t (.v (.int .i64 k)))] => kd6_3_0 k r0
  | _ => none
def kd6_call (f : FuncId) (args : List TV) : Option TV := if f = 68 then orO (kd6_0 args) (kd3.call f args) else if f = 69 then orO (kd6_1 args) (kd3.call f args) else if f = 75 then orO (kd6_2 args) (kd3.call f args) else if f = 89 then orO (kd6_3 args) (kd3.call f args) else kd3.call f args
def kd6 : Kn := { call := kd6_call, eqs := eqTys, callB := kd3.callB }
attribute [go_sem] kd6_0_0 kd6_0_1 kd6_0 kd6_1_0 kd6_1_1 kd6_1 kd6_2_0 kd6_2_1 kd6_2_2 kd6_2 kd6_3_0 kd6_3_1 kd6_3 kd6_call kd6
theorem kd6_ok : ∀ f args res, kd6_call f args = some res → TC Try.prog f args [] 1 res [] 1 := by
  intro f args res h
  unfold kd6_call at h
  split at h
  · rename_i e; subst e
    have hh := orO_elim h
    clear h
    rcases hh with h | h
    rotate_left
    · exact kD3.call _ _ _ h
    unfold kd6_0 at h
    split at h
    · rename_i r0; unfold kd6_0_0 at h
      obtain ⟨l, e0, h⟩ := Option.bind_eq_some_iff.1 h
      unfold kd6_0_1 at h
      split at h
      · rename_i hc; cases h; rw [unPks_ok e0]; exact toPksF_tc l (of_decide_eq_true hc).1 (of_decide_eq_true hc).2.1
      · cases h
    · cases h
  split at h
  · rename_i e; subst e
    have hh := orO_elim h
    clear h
    rcases hh with h | h
    rotate_left
    · exact kD3.call _ _ _ h
    unfold kd6_1 at h
    split at h
    · rename_i r0; unfold kd6_1_0 at h
      obtain ⟨l, e0, h⟩ := Option.bind_eq_some_iff.1 h
      unfold kd6_1_1 at h
      split at h
      · rename_i hc; cases h; rw [unInts_ok e0]; exact toIsF_tc l hc
      · cases h
    · cases h
  split at h
  · rename_i e; subst e
    have hh := orO_elim h
    clear h
    rcases hh with h | h
    rotate_left
    · exact kD3.call _ _ _ h
    unfold kd6_2 at h
    split at h
    · rename_i r0 r1; unfold kd6_2_0 at h
      obtain ⟨l, e0, h⟩ := Option.bind_eq_some_iff.1 h
      unfold kd6_2_1 at h
      obtain ⟨r, e1, h⟩ := Option.bind_eq_some_iff.1 h
      unfold kd6_2_2 at h
      split at h
      · rename_i hc; cases h; rw [unPks_ok e0, unPks_ok e1]; exact eqPks_tc l r (of_decide_eq_true hc).1 (of_decide_eq_true hc).2.1
      · cases h
    · cases h
  split at h
  · rename_i e; subst e
    have hh := orO_elim h
    clear h
    rcases hh with h | h
    rotate_left
    · exact kD3.call _ _ _ h
    unfold kd6_3 at h
    split at h
    · rename_i r0 k; unfold kd6_3_0 at h
      obtain ⟨a, e0, h⟩ := Option.bind_eq_some_iff.1 h
      unfold kd6_3_1 at h
      split at h
      · rename_i hc; cases h; rw [unPks_ok e0]; exact heldPks_tc a k hc.1 hc.2.1 hc.2.2
      · cases h
    · cases h
  · exact kD3.call f args res h
theorem kD6 : KnOk Try.prog kd6 := ⟨kd6_ok, eqTysOk, kD3.callB⟩
def kd7_0_1 (l : List Pk) : CB := if pksOk l = true then some (.c (.own 1 0 l.length), [(1, .nest 44 4 (l.map Pk.nc))], 2) else none
def kd7_0_0 (r0 : List (List Tree)) : CB := (unPks r0).bind (kd7_0_1)
def kd7_0 : List TV → List (Nat × AObj) → CB
  | [.c (.t (.sl 4 r0))], [] => kd7_0_0 r0
  | _, _ => none
def kd7_1_1 (n : Nat) (k : Int) (l : List Pk) : CB := if n = l.length ∧ 0 ≤ k ∧ k + (pkSum l : Nat) ≤ 1099511627776 then some (int (k + (pkSum l : Nat)), [(1, .nest 44 4 ((mkPks l k).map Pk.nc))], 2) else none
def kd7_1_0 (n : Nat) (k : Int) (r0 : List (List NC)) : CB := (unNcs r0).bind (kd7_1_1 n k)
def kd7_1 : List TV → List (Nat × AObj) → CB
  | [.c (.own 1 0 n), .c (.t (.v (.int .i64 k)))], [(1, .nest 44 4 r0)] => kd7_1_0 n k r0
  | _, _ => none
def kd7_call (f : FuncId) (args : List TV) (o : List (Nat × AObj)) : CB := if f = 68 then orO (kd7_0 args o) (kd4.callB f args o) else if f = 77 then orO (kd7_1 args o) (kd4.callB f args o) else kd4.callB f args o
def kd7 : Kn := { call := kd4.call, eqs := eqTys, callB := kd7_call }
attribute [go_sem] kd7_0_0 kd7_0_1 kd7_0 kd7_1_0 kd7_1_1 kd7_1 kd7_call kd7
theorem kd7_ok : ∀ f args o res o1 n1, kd7_call f args o = some (res, o1, n1) → TC Try.prog f args o (o.length + 1) res o1 n1 := by
  intro f args o res o1 n1 h
  unfold kd7_call at h
  split at h
  · rename_i e; subst e
    have hh := orO_elim h
    clear h
    rcases hh with h | h
    rotate_left
    · exact kD4.callB _ _ _ _ _ _ h
    unfold kd7_0 at h
    split at h
    · rename_i r0; unfold kd7_0_0 at h
      have hb0 := Option.bind_eq_some_iff.1 h
      clear h
      obtain ⟨l, e0, h⟩ := hb0
      unfold kd7_0_1 at h
      split at h
      · rename_i hc; cases h; rw [unPks_ok e0]; exact toPks_tc l (of_decide_eq_true hc).1 (of_decide_eq_true hc).2.1
      · cases h
    · cases h
  split at h
  · rename_i e; subst e
    have hh := orO_elim h
    clear h
    rcases hh with h | h
    rotate_left
    · exact kD4.callB _ _ _ _ _ _ h
    unfold kd7_1 at h
    split at h
    · rename_i n k r0; unfold kd7_1_0 at h
      have hb0 := Option.bind_eq_some_iff.1 h
      clear h
      obtain ⟨l, e0, h⟩ := hb0
      unfold kd7_1_1 at h
      split at h
      · rename_i hc; cases h; rw [unNcs_ok e0]; obtain ⟨rfl, h1, h2⟩ := hc; exact markPks_tc l k h1 h2
      · cases h
    · cases h
  · exact kD4.callB f args o res o1 n1 h
theorem kD7 : KnOk Try.prog kd7 := ⟨kD4.call, eqTysOk, kd7_ok⟩
def szBgF (b : Bg) (left : Int) : Int := if szPksF b.ps left < 0 then -1 else if szIs b.ws (szPksF b.ps left) < 0 then -1 else szIs b.ws (szPksF b.ps left)
theorem szBg_tc (b : Bg) (left : Int) (h : bgBig b = true) : TC Try.prog 10 [.agg b.cv, int left] [] 1 (int (szBgF b left)) [] 1 := by
  refine tc_intro Try.func10 rfl 18 rfl (Nat.le_of_ble_eq_true rfl) (by decide) [4] rfl (by intro id x h; cases h) ?_
  intro w0 E0
  have kOk := kD6
  obtain ⟨a, l, u⟩ := b
  have hp := (show pksBig l = true from h)
  simp only [Bg.cv]
  repeat' (fail_if_success (with_reducible apply amR_id)); first
    | (refine guardP_mk (fun h => ?_) (fun h => ?_) <;> (refine go1 ?_; try simp only [decide_eq_true_eq, decide_eq_false_iff_not, Bool.not_true, Bool.not_false, Bool.not_eq_true', Bool.not_eq_false', beq_iff_eq, bne_iff_ne, beq_eq_false_iff_ne, bne_eq_false_iff_eq, ne_eq, Bool.false_eq_true, reduceCtorEq] at h))
    | (refine hK _ ?_; clear hK K Q1)
    | (refine ⟨by first | omega | (simp only [List.length_map, List.length_append, List.length_cons, List.length_nil, List.length_replicate, List.length_drop, List.length_take]; omega), by unfold maxLen; first | omega | (simp only [List.length_map, List.length_append, List.length_cons, List.length_nil, List.length_replicate, List.length_drop, List.length_take]; omega), ?_⟩)
    | (refine hK _ _ rfl ?_; clear hK K; try refine go1 ?_)
    | (refine am_retP rfl ?_ rfl; first | refine go ?_ | rfl)
    | (refine am_retC [] rfl ?_ rfl rfl; first | refine go ?_ | rfl)
    | (refine wkq ?_)
    | (refine am_rs tabOk kOk rfl fun K Q1 hK => ?_; refine go1 ?_)
    | (refine am_reg tabOk kOk rfl fun K Q1 hK => ?_; refine go1 ?_)
    | (refine am_ds mixed tabOk kOk rfl rfl fun K hK => ?_; refine go1 ?_)
    | (refine am_dreg mixed tabOk kOk rfl rfl fun K hK => ?_; refine go1 ?_)
  all_goals (clear hp; simp only [TV.c.injEq, CV.t.injEq, Tree.v.injEq, Value.int.injEq, true_and]; simp only [szBgF] at *; grind)
theorem toBgF_tc (b : Bg) (h : bgOk b = true) : TC Try.prog 12 [.agg b.cv] [] 1 (.agg b.cv) [] 1 := by
  refine tc_cell tabOk Try.func12 rfl 16 rfl (Nat.le_of_ble_eq_true rfl) (by decide) [(2, some 30)] rfl (by intro id x h; cases h) ?_
  intro w0 E0
  have kOk := kD6
  obtain ⟨a, l, u⟩ := b
  simp only [bgOk, Bool.and_eq_true, decide_eq_true_eq] at h
  have hp := (show pksOk l = true ∧ (u.length ≤ 1048576) = True from ⟨h.1, eq_true h.2⟩)
  simp only [Bg.cv]
  refine wk1 ?_
  refine am_retC [] rfl ?_ rfl rfl
  first | rfl | (refine go ?_; rfl)
theorem toBg_tc (b : Bg) (h : bgOk b = true) : TC Try.prog 12 [.agg b.cv] [] 1 (.agg [ci b.nx, .own 1 0 b.ps.length, .own 2 0 b.ws.length]) [(1, .nest 44 4 (b.ps.map Pk.nc)), (2, .arr 3 1 (b.ws.map iTr))] 3 := by
  refine tc_cell tabOk Try.func12 rfl 16 rfl (Nat.le_of_ble_eq_true rfl) (by decide) [(2, some 30)] rfl (by intro id x h; cases h) ?_
  intro w0 E0
  have kOk := kD7
  obtain ⟨a, l, u⟩ := b
  simp only [bgOk, Bool.and_eq_true, decide_eq_true_eq] at h
  have hp := (show pksOk l = true ∧ (u.length ≤ 1048576) = True from ⟨h.1, eq_true h.2⟩)
  simp only [Bg.cv]
  refine wk1 ?_
  refine am_retC [(4, 1), (5, 2)] rfl ?_ ?_ rfl <;> first | rfl | (refine go ?_; rfl) | refine go ?_ | (simp only [go_sem, ↓reduceIte, List.map_cons, List.map_nil]; done) | (simp [go_sem]; intro _ _; rfl)
theorem eqBg_tc (c d : Bg) (h : bgOk c = true) : TC Try.prog 16 [.agg c.cv, .agg d.cv] [] 1 (bool (decide (c = d))) [] 1 := by
  refine tc_intro Try.func16 rfl 22 rfl (Nat.le_of_ble_eq_true rfl) (by decide) [4] rfl (by intro id x h; cases h) ?_
  intro w0 E0
  have kOk := kD6
  obtain ⟨a, l, u⟩ := c
  obtain ⟨a', l', u'⟩ := d
  simp only [bgOk, Bool.and_eq_true, decide_eq_true_eq] at h
  have hp := (show pksOk l = true ∧ (u.length ≤ 1048576) = True from ⟨h.1, eq_true h.2⟩)
  simp only [Bg.cv]
  repeat' (fail_if_success (with_reducible apply amR_id)); first
    | (refine guardP_mk (fun h => ?_) (fun h => ?_) <;> (refine go1 ?_; try simp only [decide_eq_true_eq, decide_eq_false_iff_not, Bool.not_true, Bool.not_false, Bool.not_eq_true', Bool.not_eq_false', beq_iff_eq, bne_iff_ne, beq_eq_false_iff_ne, bne_eq_false_iff_eq, ne_eq, Bool.false_eq_true, reduceCtorEq] at h))
    | (refine hK _ ?_; clear hK K Q1)
    | (refine ⟨by first | omega | (simp only [List.length_map, List.length_append, List.length_cons, List.length_nil, List.length_replicate, List.length_drop, List.length_take]; omega), by unfold maxLen; first | omega | (simp only [List.length_map, List.length_append, List.length_cons, List.length_nil, List.length_replicate, List.length_drop, List.length_take]; omega), ?_⟩)
    | (refine hK _ _ rfl ?_; clear hK K; try refine go1 ?_)
    | (refine am_retP rfl ?_ rfl; first | refine go ?_ | rfl)
    | (refine am_retC [] rfl ?_ rfl rfl; first | refine go ?_ | rfl)
    | (refine wkq ?_)
    | (refine am_rs tabOk kOk rfl fun K Q1 hK => ?_; refine go1 ?_)
    | (refine am_reg tabOk kOk rfl fun K Q1 hK => ?_; refine go1 ?_)
    | (refine am_ds mixed tabOk kOk rfl rfl fun K hK => ?_; refine go1 ?_)
    | (refine am_dreg mixed tabOk kOk rfl rfl fun K hK => ?_; refine go1 ?_)
  all_goals simp_all
theorem markBg_tc (b : Bg) (k : Int) (h0 : 0 ≤ k) (hk : k + (pkSum b.ps : Nat) + (b.ws.length : Nat) ≤ 1099511627776) : TC Try.prog 18 [.agg [ci b.nx, .own 1 0 b.ps.length, .own 2 0 b.ws.length], int k] [(1, .nest 44 4 (b.ps.map Pk.nc)), (2, .arr 3 1 (b.ws.map iTr))] 3
    (int (k + (pkSum b.ps : Nat) + (b.ws.length : Nat))) [(1, .nest 44 4 ((mkPks b.ps k).map Pk.nc)), (2, .arr 3 1 ((mkIs b.ws.length (k + (pkSum b.ps : Nat))).map iTr))] 3 := by
  refine tc_intro Try.func18 rfl 14 rfl (Nat.le_of_ble_eq_true rfl) (by decide) [4] rfl dom2 ?_
  intro w0 E0
  have kOk := kD7
  obtain ⟨a, l, u⟩ := b
  simp only at hk
  have hp := (show (0 ≤ k) = True ∧ (k + (pkSum l : Int) ≤ 1099511627776) = True ∧ (0 ≤ k + (pkSum l : Int)) = True ∧ (k + (pkSum l : Int) + (u.length : Int) ≤ 1099511627776) = True from ⟨eq_true h0, eq_true (by omega), eq_true (by omega), eq_true hk⟩)
  refine wk1 ?_
  refine am_retB [(1, 1), (2, 2)] rfl ?_ ?_ rfl <;> first | rfl | (refine go ?_; rfl) | refine go ?_ | (simp only [go_sem, ↓reduceIte, List.map_cons, List.map_nil]; done) | (simp [go_sem]; intro _ _; rfl)
theorem heldBg_tc (b : Bg) (k : Int) (h1 : b.ps = mkPks b.ps k) (h2 : b.ws = mkIs b.ws.length (k + (pkSum b.ps : Nat))) (h0 : 0 ≤ k) (hk : k + (pkSum b.ps : Nat) + (b.ws.length : Nat) ≤ 1099511627776) : TC Try.prog 29 [.agg b.cv, int k] [] 1 (int (k + (pkSum b.ps : Nat) + (b.ws.length : Nat))) [] 1 := by
  refine tc_intro Try.func29 rfl 18 rfl (Nat.le_of_ble_eq_true rfl) (by decide) [4] rfl (by intro id x h; cases h) ?_
  intro w0 E0
  have kOk := kD6
  obtain ⟨a, l, u⟩ := b
  simp only at hk h1 h2
  simp only [Bg.cv]
  have hp := (show (l = mkPks l k) = True ∧ (u = mkIs u.length (k + (pkSum l : Nat))) = True ∧ (0 ≤ k) = True ∧ (k + (pkSum l : Int) ≤ 1099511627776) = True ∧ (0 ≤ k + (pkSum l : Int)) = True ∧ (k + (pkSum l : Int) < 0) = False ∧ (k + (pkSum l : Int) + (u.length : Int) ≤ 1099511627776) = True ∧ (k + (pkSum l : Int) + (u.length : Int) < 0) = False from
    ⟨eq_true h1, eq_true h2, eq_true h0, eq_true (by omega), eq_true (by omega), eq_false (by omega), eq_true hk, eq_false (by omega)⟩)
  clear h1 h2
  refine wk1 ?_
  refine am_retP rfl ?_ rfl
  first | rfl | (refine go ?_; rfl)
/-! bags with nothing in them -/
theorem eqPks0_tc : TC Try.prog 75 [lit (.slice none 0 0), lit (.slice none 0 0)] [] 1 (bool true) [] 1 := by
  refine tc_intro Try.func75 rfl 27 rfl (Nat.le_of_ble_eq_true rfl) (by decide) [4] rfl (by intro id x h; cases h) ?_
  intro w0 E0
  have kOk := kD6
  refine hd ?_
  repeat' (fail_if_success (with_reducible apply amR_id)); first
    | (refine guardP_mk (fun h => ?_) (fun h => ?_) <;> (refine go ?_; try simp only [decide_eq_true_eq, decide_eq_false_iff_not, Bool.not_true, Bool.not_false, Bool.not_eq_true', Bool.not_eq_false', beq_iff_eq, bne_iff_ne, beq_eq_false_iff_ne, bne_eq_false_iff_eq, ne_eq, Bool.false_eq_true, reduceCtorEq] at h))
    | (refine hK _ ?_; clear hK K Q1)
    | (refine ⟨by first | omega | (simp only [List.length_map, List.length_append, List.length_cons, List.length_nil, List.length_replicate, List.length_drop, List.length_take]; omega), by unfold maxLen; first | omega | (simp only [List.length_map, List.length_append, List.length_cons, List.length_nil, List.length_replicate, List.length_drop, List.length_take]; omega), ?_⟩)
    | (refine hK _ _ rfl ?_; clear hK K; try refine go ?_)
    | (refine am_retP rfl ?_ rfl; first | refine go ?_ | rfl)
    | (refine am_retC [] rfl ?_ rfl rfl; first | refine go ?_ | rfl)
    | (refine wkp ?_)
    | (refine am_rs tabOk kOk rfl fun K Q1 hK => ?_; refine go ?_)
    | (refine am_reg tabOk kOk rfl fun K Q1 hK => ?_; refine go ?_)
    | (refine am_ds mixed tabOk kOk rfl rfl fun K hK => ?_; refine go ?_)
    | (refine am_dreg mixed tabOk kOk rfl rfl fun K hK => ?_; refine go ?_)
  all_goals try (exfalso; simp at *; done)
  all_goals refine am_loop 1 (amR_succ ?_)
  repeat' (fail_if_success (with_reducible apply amR_id)); first
    | (refine guardP_mk (fun h => ?_) (fun h => ?_) <;> (refine go ?_; try simp only [decide_eq_true_eq, decide_eq_false_iff_not, Bool.not_true, Bool.not_false, Bool.not_eq_true', Bool.not_eq_false', beq_iff_eq, bne_iff_ne, beq_eq_false_iff_ne, bne_eq_false_iff_eq, ne_eq, Bool.false_eq_true, reduceCtorEq] at h))
    | (refine hK _ ?_; clear hK K Q1)
    | (refine ⟨by first | omega | (simp only [List.length_map, List.length_append, List.length_cons, List.length_nil, List.length_replicate, List.length_drop, List.length_take]; omega), by unfold maxLen; first | omega | (simp only [List.length_map, List.length_append, List.length_cons, List.length_nil, List.length_replicate, List.length_drop, List.length_take]; omega), ?_⟩)
    | (refine hK _ _ rfl ?_; clear hK K; try refine go ?_)
    | (refine am_retP rfl ?_ rfl; first | refine go ?_ | rfl)
    | (refine am_retC [] rfl ?_ rfl rfl; first | refine go ?_ | rfl)
    | (refine wkp ?_)
    | (refine am_rs tabOk kOk rfl fun K Q1 hK => ?_; refine go ?_)
    | (refine am_reg tabOk kOk rfl fun K Q1 hK => ?_; refine go ?_)
    | (refine am_ds mixed tabOk kOk rfl rfl fun K hK => ?_; refine go ?_)
    | (refine am_dreg mixed tabOk kOk rfl rfl fun K hK => ?_; refine go ?_)
  all_goals first | rfl | (exfalso; omega) | (exfalso; simp at *; done)
theorem eqIs0_tc : TC Try.prog 76 [lit (.slice none 0 0), lit (.slice none 0 0)] [] 1 (bool true) [] 1 := by
  refine tc_intro Try.func76 rfl 26 rfl (Nat.le_of_ble_eq_true rfl) (by decide) [4] rfl (by intro id x h; cases h) ?_
  intro w0 E0
  have kOk := kD6
  refine hd ?_
  repeat' (fail_if_success (with_reducible apply amR_id)); first
    | (refine guardP_mk (fun h => ?_) (fun h => ?_) <;> (refine go ?_; try simp only [decide_eq_true_eq, decide_eq_false_iff_not, Bool.not_true, Bool.not_false, Bool.not_eq_true', Bool.not_eq_false', beq_iff_eq, bne_iff_ne, beq_eq_false_iff_ne, bne_eq_false_iff_eq, ne_eq, Bool.false_eq_true, reduceCtorEq] at h))
    | (refine hK _ ?_; clear hK K Q1)
    | (refine ⟨by first | omega | (simp only [List.length_map, List.length_append, List.length_cons, List.length_nil, List.length_replicate, List.length_drop, List.length_take]; omega), by unfold maxLen; first | omega | (simp only [List.length_map, List.length_append, List.length_cons, List.length_nil, List.length_replicate, List.length_drop, List.length_take]; omega), ?_⟩)
    | (refine hK _ _ rfl ?_; clear hK K; try refine go ?_)
    | (refine am_retP rfl ?_ rfl; first | refine go ?_ | rfl)
    | (refine am_retC [] rfl ?_ rfl rfl; first | refine go ?_ | rfl)
    | (refine wkp ?_)
    | (refine am_rs tabOk kOk rfl fun K Q1 hK => ?_; refine go ?_)
    | (refine am_reg tabOk kOk rfl fun K Q1 hK => ?_; refine go ?_)
    | (refine am_ds mixed tabOk kOk rfl rfl fun K hK => ?_; refine go ?_)
    | (refine am_dreg mixed tabOk kOk rfl rfl fun K hK => ?_; refine go ?_)
  all_goals try (exfalso; simp at *; done)
  all_goals refine am_loop 1 (amR_succ ?_)
  repeat' (fail_if_success (with_reducible apply amR_id)); first
    | (refine guardP_mk (fun h => ?_) (fun h => ?_) <;> (refine go ?_; try simp only [decide_eq_true_eq, decide_eq_false_iff_not, Bool.not_true, Bool.not_false, Bool.not_eq_true', Bool.not_eq_false', beq_iff_eq, bne_iff_ne, beq_eq_false_iff_ne, bne_eq_false_iff_eq, ne_eq, Bool.false_eq_true, reduceCtorEq] at h))
    | (refine hK _ ?_; clear hK K Q1)
    | (refine ⟨by first | omega | (simp only [List.length_map, List.length_append, List.length_cons, List.length_nil, List.length_replicate, List.length_drop, List.length_take]; omega), by unfold maxLen; first | omega | (simp only [List.length_map, List.length_append, List.length_cons, List.length_nil, List.length_replicate, List.length_drop, List.length_take]; omega), ?_⟩)
    | (refine hK _ _ rfl ?_; clear hK K; try refine go ?_)
    | (refine am_retP rfl ?_ rfl; first | refine go ?_ | rfl)
    | (refine am_retC [] rfl ?_ rfl rfl; first | refine go ?_ | rfl)
    | (refine wkp ?_)
    | (refine am_rs tabOk kOk rfl fun K Q1 hK => ?_; refine go ?_)
    | (refine am_reg tabOk kOk rfl fun K Q1 hK => ?_; refine go ?_)
    | (refine am_ds mixed tabOk kOk rfl rfl fun K hK => ?_; refine go ?_)
    | (refine am_dreg mixed tabOk kOk rfl rfl fun K hK => ?_; refine go ?_)
  all_goals first | rfl | (exfalso; omega) | (exfalso; simp at *; done)
theorem markPks0_tc (k : Int) : TC Try.prog 77 [lit (.slice none 0 0), int k] [] 1 (int k) [] 1 := by
  refine tc_intro Try.func77 rfl 41 rfl (Nat.le_of_ble_eq_true rfl) (by decide) [4] rfl (by intro id x h; cases h) ?_
  intro w0 E0
  have kOk := kD6
  refine wk ?_
  refine am_loop 1 (amR_succ ?_)
  repeat' (fail_if_success (with_reducible apply amR_id)); first
    | (refine guardP_mk (fun h => ?_) (fun h => ?_) <;> (refine go ?_; try simp only [decide_eq_true_eq, decide_eq_false_iff_not, Bool.not_true, Bool.not_false, Bool.not_eq_true', Bool.not_eq_false', beq_iff_eq, bne_iff_ne, beq_eq_false_iff_ne, bne_eq_false_iff_eq, ne_eq, Bool.false_eq_true, reduceCtorEq] at h))
    | (refine hK _ ?_; clear hK K Q1)
    | (refine ⟨by first | omega | (simp only [List.length_map, List.length_append, List.length_cons, List.length_nil, List.length_replicate, List.length_drop, List.length_take]; omega), by unfold maxLen; first | omega | (simp only [List.length_map, List.length_append, List.length_cons, List.length_nil, List.length_replicate, List.length_drop, List.length_take]; omega), ?_⟩)
    | (refine hK _ _ rfl ?_; clear hK K; try refine go ?_)
    | (refine am_retP rfl ?_ rfl; first | refine go ?_ | rfl)
    | (refine am_retC [] rfl ?_ rfl rfl; first | refine go ?_ | rfl)
    | (refine wkp ?_)
    | (refine am_rs tabOk kOk rfl fun K Q1 hK => ?_; refine go ?_)
    | (refine am_reg tabOk kOk rfl fun K Q1 hK => ?_; refine go ?_)
    | (refine am_ds mixed tabOk kOk rfl rfl fun K hK => ?_; refine go ?_)
    | (refine am_dreg mixed tabOk kOk rfl rfl fun K hK => ?_; refine go ?_)
  all_goals first | rfl | (exfalso; omega)
theorem markIs0_tc (k : Int) : TC Try.prog 78 [lit (.slice none 0 0), int k] [] 1 (int k) [] 1 := by
  refine tc_intro Try.func78 rfl 19 rfl (Nat.le_of_ble_eq_true rfl) (by decide) [4] rfl (by intro id x h; cases h) ?_
  intro w0 E0
  have kOk := kD6
  refine wk ?_
  refine am_loop 1 (amR_succ ?_)
  repeat' (fail_if_success (with_reducible apply amR_id)); first
    | (refine guardP_mk (fun h => ?_) (fun h => ?_) <;> (refine go ?_; try simp only [decide_eq_true_eq, decide_eq_false_iff_not, Bool.not_true, Bool.not_false, Bool.not_eq_true', Bool.not_eq_false', beq_iff_eq, bne_iff_ne, beq_eq_false_iff_ne, bne_eq_false_iff_eq, ne_eq, Bool.false_eq_true, reduceCtorEq] at h))
    | (refine hK _ ?_; clear hK K Q1)
    | (refine ⟨by first | omega | (simp only [List.length_map, List.length_append, List.length_cons, List.length_nil, List.length_replicate, List.length_drop, List.length_take]; omega), by unfold maxLen; first | omega | (simp only [List.length_map, List.length_append, List.length_cons, List.length_nil, List.length_replicate, List.length_drop, List.length_take]; omega), ?_⟩)
    | (refine hK _ _ rfl ?_; clear hK K; try refine go ?_)
    | (refine am_retP rfl ?_ rfl; first | refine go ?_ | rfl)
    | (refine am_retC [] rfl ?_ rfl rfl; first | refine go ?_ | rfl)
    | (refine wkp ?_)
    | (refine am_rs tabOk kOk rfl fun K Q1 hK => ?_; refine go ?_)
    | (refine am_reg tabOk kOk rfl fun K Q1 hK => ?_; refine go ?_)
    | (refine am_ds mixed tabOk kOk rfl rfl fun K hK => ?_; refine go ?_)
    | (refine am_dreg mixed tabOk kOk rfl rfl fun K hK => ?_; refine go ?_)
  all_goals first | rfl | (exfalso; omega)
theorem heldPks0_tc (k : Int) : TC Try.prog 89 [lit (.slice none 0 0), int k] [] 1 (int k) [] 1 := by
  refine tc_intro Try.func89 rfl 49 rfl (Nat.le_of_ble_eq_true rfl) (by decide) [4] rfl (by intro id x h; cases h) ?_
  intro w0 E0
  have kOk := kD6
  refine wk ?_
  refine am_loop 1 (amR_succ ?_)
  repeat' (fail_if_success (with_reducible apply amR_id)); first
    | (refine guardP_mk (fun h => ?_) (fun h => ?_) <;> (refine go ?_; try simp only [decide_eq_true_eq, decide_eq_false_iff_not, Bool.not_true, Bool.not_false, Bool.not_eq_true', Bool.not_eq_false', beq_iff_eq, bne_iff_ne, beq_eq_false_iff_ne, bne_eq_false_iff_eq, ne_eq, Bool.false_eq_true, reduceCtorEq] at h))
    | (refine hK _ ?_; clear hK K Q1)
    | (refine ⟨by first | omega | (simp only [List.length_map, List.length_append, List.length_cons, List.length_nil, List.length_replicate, List.length_drop, List.length_take]; omega), by unfold maxLen; first | omega | (simp only [List.length_map, List.length_append, List.length_cons, List.length_nil, List.length_replicate, List.length_drop, List.length_take]; omega), ?_⟩)
    | (refine hK _ _ rfl ?_; clear hK K; try refine go ?_)
    | (refine am_retP rfl ?_ rfl; first | refine go ?_ | rfl)
    | (refine am_retC [] rfl ?_ rfl rfl; first | refine go ?_ | rfl)
    | (refine wkp ?_)
    | (refine am_rs tabOk kOk rfl fun K Q1 hK => ?_; refine go ?_)
    | (refine am_reg tabOk kOk rfl fun K Q1 hK => ?_; refine go ?_)
    | (refine am_ds mixed tabOk kOk rfl rfl fun K hK => ?_; refine go ?_)
    | (refine am_dreg mixed tabOk kOk rfl rfl fun K hK => ?_; refine go ?_)
  all_goals first | rfl | (exfalso; omega)
theorem heldIs0_tc (k : Int) : TC Try.prog 90 [lit (.slice none 0 0), int k] [] 1 (int k) [] 1 := by
  refine tc_intro Try.func90 rfl 21 rfl (Nat.le_of_ble_eq_true rfl) (by decide) [4] rfl (by intro id x h; cases h) ?_
  intro w0 E0
  have kOk := kD6
  refine wk ?_
  refine am_loop 1 (amR_succ ?_)
  repeat' (fail_if_success (with_reducible apply amR_id)); first
    | (refine guardP_mk (fun h => ?_) (fun h => ?_) <;> (refine go ?_; try simp only [decide_eq_true_eq, decide_eq_false_iff_not, Bool.not_true, Bool.not_false, Bool.not_eq_true', Bool.not_eq_false', beq_iff_eq, bne_iff_ne, beq_eq_false_iff_ne, bne_eq_false_iff_eq, ne_eq, Bool.false_eq_true, reduceCtorEq] at h))
    | (refine hK _ ?_; clear hK K Q1)
    | (refine ⟨by first | omega | (simp only [List.length_map, List.length_append, List.length_cons, List.length_nil, List.length_replicate, List.length_drop, List.length_take]; omega), by unfold maxLen; first | omega | (simp only [List.length_map, List.length_append, List.length_cons, List.length_nil, List.length_replicate, List.length_drop, List.length_take]; omega), ?_⟩)
    | (refine hK _ _ rfl ?_; clear hK K; try refine go ?_)
    | (refine am_retP rfl ?_ rfl; first | refine go ?_ | rfl)
    | (refine am_retC [] rfl ?_ rfl rfl; first | refine go ?_ | rfl)
    | (refine wkp ?_)
    | (refine am_rs tabOk kOk rfl fun K Q1 hK => ?_; refine go ?_)
    | (refine am_reg tabOk kOk rfl fun K Q1 hK => ?_; refine go ?_)
    | (refine am_ds mixed tabOk kOk rfl rfl fun K hK => ?_; refine go ?_)
    | (refine am_dreg mixed tabOk kOk rfl rfl fun K hK => ?_; refine go ?_)
  all_goals first | rfl | (exfalso; omega)
def kd8_0_0  : Option TV := some (bool true)
def kd8_0 : List TV → Option TV
  | [.c (.t (.v (.slice none 0 0))), .c (.t (.v (.slice none 0 0)))] => kd8_0_0
  | _ => none
def kd8_1_0  : Option TV := some (bool true)
def kd8_1 : List TV → Option TV
  | [.c (.t (.v (.slice none 0 0))), .c (.t (.v (.slice none 0 0)))] => kd8_1_0
  | _ => none
def kd8_2_0 (k : Int) : Option TV := some (int k)
def kd8_2 : List TV → Option TV
  | [.c (.t (.v (.slice none 0 0))), .c (.t (.v (.int .i64 k)))] => kd8_2_0 k
  | _ => none
def kd8_3_0 (k : Int) : Option TV := some (int k)
def kd8_3 : List TV → Option TV
  | [.c (.t (.v (.slice none 0 0))), .c (.t (.v (.int .i64 k)))] => kd8_3_0 k
  | _ => none
def kd8_4_0 (k : Int) : Option TV := some (int k)
def kd8_4 : List TV → Option TV
  | [.c (.t (.v (.slice none 0 0))), .c (.t (.v (.int .i64 k)))] => kd8_4_0 k
  | _ => none
def kd8_5_0 (k : Int) : Option TV := some (int k)
def kd8_5 : List TV → Option TV
  | [.c (.t (.v (.slice none 0 0))), .c (.t (.v (.int .i64 k)))] => kd8_5_0 k
  | _ => none
def kd8_call (f : FuncId) (args : List TV) : Option TV := if f = 75 then orO (kd8_0 args) (kd6.call f args) else if f = 76 then orO (kd8_1 args) (kd6.call f args) else if f = 77 then orO (kd8_2 args) (kd6.call f args) else if f = 78 then orO (kd8_3 args) (kd6.call f args) else if f = 89 then orO (kd8_4 args) (kd6.call f args) else if f = 90 then orO (kd8_5 args) (kd6.call f args) else kd6.call f args
def kd8 : Kn := { call := kd8_call, eqs := eqTys, callB := kd6.callB }
attribute [go_sem] kd8_0_0 kd8_0 kd8_1_0 kd8_1 kd8_2_0 kd8_2 kd8_3_0 kd8_3 kd8_4_0 kd8_4 kd8_5_0 kd8_5 kd8_call kd8
theorem kd8_ok : ∀ f args res, kd8_call f args = some res → TC Try.prog f args [] 1 res [] 1 := by
  intro f args res h
  unfold kd8_call at h
  split at h
  · rename_i e; subst e
    have hh := orO_elim h
    clear h
    rcases hh with h | h
    rotate_left
    · exact kD6.call _ _ _ h
    unfold kd8_0 at h
    split at h
    · unfold kd8_0_0 at h
      cases h; exact eqPks0_tc
    · cases h
  split at h
  · rename_i e; subst e
    have hh := orO_elim h
    clear h
    rcases hh with h | h
    rotate_left
    · exact kD6.call _ _ _ h
    unfold kd8_1 at h
    split at h
    · unfold kd8_1_0 at h
      cases h; exact eqIs0_tc
    · cases h
  split at h
  · rename_i e; subst e
    have hh := orO_elim h
    clear h
    rcases hh with h | h
    rotate_left
    · exact kD6.call _ _ _ h
    unfold kd8_2 at h
    split at h
    · rename_i k; unfold kd8_2_0 at h
      cases h; exact markPks0_tc k
    · cases h
  split at h
  · rename_i e; subst e
    have hh := orO_elim h
    clear h
    rcases hh with h | h
    rotate_left
    · exact kD6.call _ _ _ h
    unfold kd8_3 at h
    split at h
    · rename_i k; unfold kd8_3_0 at h
      cases h; exact markIs0_tc k
    · cases h
  split at h
  · rename_i e; subst e
    have hh := orO_elim h
    clear h
    rcases hh with h | h
    rotate_left
    · exact kD6.call _ _ _ h
    unfold kd8_4 at h
    split at h
    · rename_i k; unfold kd8_4_0 at h
      cases h; exact heldPks0_tc k
    · cases h
  split at h
  · rename_i e; subst e
    have hh := orO_elim h
    clear h
    rcases hh with h | h
    rotate_left
    · exact kD6.call _ _ _ h
    unfold kd8_5 at h
    split at h
    · rename_i k; unfold kd8_5_0 at h
      cases h; exact heldIs0_tc k
    · cases h
  · exact kD6.call f args res h
theorem kD8 : KnOk Try.prog kd8 := ⟨kd8_ok, eqTysOk, kD6.callB⟩
def bg0 : TV := .agg [ci 0, .t (.v (.slice none 0 0)), .t (.v (.slice none 0 0))]
theorem eqBg0_tc : TC Try.prog 16 [bg0, bg0] [] 1 (bool true) [] 1 := by
  refine tc_intro Try.func16 rfl 22 rfl (Nat.le_of_ble_eq_true rfl) (by decide) [4] rfl (by intro id x h; cases h) ?_
  intro w0 E0
  have kOk := kD8
  have hp := (show (∀ x : Int, (x != x) = false) from fun x => by simp)
  unfold bg0
  refine wk1 ?_
  refine am_retP rfl ?_ rfl
  first | rfl | (refine go ?_; rfl)
theorem markBg0_tc (k : Int) : TC Try.prog 18 [bg0, int k] [] 1 (int k) [] 1 := by
  refine tc_intro Try.func18 rfl 14 rfl (Nat.le_of_ble_eq_true rfl) (by decide) [4] rfl (by intro id x h; cases h) ?_
  intro w0 E0
  have kOk := kD8
  have hp := True.intro
  unfold bg0
  refine wk1 ?_
  refine am_retP rfl ?_ rfl
  first | rfl | (refine go ?_; rfl)
theorem heldBg0_tc (k : Int) (h0 : 0 ≤ k) : TC Try.prog 29 [bg0, int k] [] 1 (int k) [] 1 := by
  refine tc_intro Try.func29 rfl 18 rfl (Nat.le_of_ble_eq_true rfl) (by decide) [4] rfl (by intro id x h; cases h) ?_
  intro w0 E0
  have kOk := kD8
  have hp := (show (0 ≤ k) = True ∧ (k < 0) = False from ⟨eq_true h0, eq_false (by omega)⟩)
  unfold bg0
  refine wk1 ?_
  refine am_retP rfl ?_ rfl
  first | rfl | (refine go ?_; rfl)
end Go.Proofs.YthnpbfljoghbmaaA
