/- Bags: a packet put in; the law holds at every argument. -/
import Derived.Test.YthnpbfljoghbmaaEPutS
namespace Go.Proofs.YthnpbfljoghbmaaA
open Go.Proofs
set_option autoImplicit false
set_option linter.unusedVariables false
set_option linter.unusedSimpArgs false
set_option maxRecDepth 4000
@[go_sem] theorem flat_iTr (l : List Int) : flatRows (l.map iTr) = true := flatRows_map (fun _ => rfl) l
@[go_sem] theorem take_mkPks {β : Type} (f : Pk → β) (l : List Pk) (k : Int) : ((mkPks l k).map f).take l.length = (mkPks l k).map f := List.take_of_length_le (by simp [mkPks_len])
@[go_sem] theorem le_mkPks {β : Type} (f : Pk → β) (l : List Pk) (k : Int) : (l.length ≤ ((mkPks l k).map f).length) = True := by simp [mkPks_len]
attribute [go_sem] mkIs_len mkPks_len
theorem szBg_okP {b : Bg} (h1 : bgBig b = true) (h2 : b.ws.length ≤ maxLen) (h : ¬ szBgF b 1048576 < 0) : bgOk b = true ∧ pkSum b.ps ≤ 4194304 := by
  obtain ⟨hl, hb⟩ := of_decide_eq_true h1
  unfold maxLen at hl h2
  unfold szBgF at h
  split at h
  · omega
  rename_i h3
  split at h
  · omega
  rename_i h4
  unfold szPksF at h3
  split at h3
  · omega
  rename_i h5
  have e : IntKind.i64.wrap (1048576 - (b.ps.length : Int)) = 1048576 - (b.ps.length : Int) := by rw [IntKind.wrap_i64]; omega
  have hps : szPksF b.ps 1048576 = szPkGo b.ps (1048576 - (b.ps.length : Int)) := by unfold szPksF; rw [if_neg h5, e]
  rw [e] at h5 h3
  obtain ⟨h6, h7⟩ := szPkGo_le hb (by omega) (by omega) h3
  rw [hps] at h4
  unfold szIs at h4
  have e2 : IntKind.i64.wrap (szPkGo b.ps (1048576 - (b.ps.length : Int)) - (b.ws.length : Int)) = szPkGo b.ps (1048576 - (b.ps.length : Int)) - (b.ws.length : Int) := by rw [IntKind.wrap_i64]; omega
  rw [e2] at h4
  split at h4
  · omega
  rename_i h8
  have hsum : ∀ l : List Pk, pkSum l = 3 * l.length + (l.map fun p => p.bytes.length).sum := fun l => by
    induction l with
    | nil => rfl
    | cons p l ih => rw [pkSum_cons, ih]; simp; omega
  have hmem : ∀ (l : List Pk) (p : Pk), p ∈ l → p.bytes.length ≤ (l.map fun p => p.bytes.length).sum := fun l => by
    induction l with
    | nil => intro p hp; cases hp
    | cons q l ih =>
      intro p hp
      rw [List.map_cons, List.sum_cons]
      rcases List.mem_cons.1 hp with rfl | hp
      · omega
      · have := ih p hp; omega
  have hsm : pkSum b.ps ≤ 4194304 := by rw [hsum]; omega
  refine ⟨?_, hsm⟩
  simp only [bgOk, pksOk, Bool.and_eq_true, decide_eq_true_eq]
  refine ⟨⟨by omega, fun p hp => ?_, ?_⟩, by omega⟩
  · have := hmem b.ps p hp; omega
  · omega
attribute [go_sem] bg0
structure Pa where
  co : Int
  id : Int
  b : Bg
deriving instance DecidableEq for Pa
def Pa.cv (a : Pa) : List CV := [ci a.co, ci a.id, ci a.b.nx, .t (.sl 4 (a.b.ps.map Pk.tr)), .t (.sl 1 (a.b.ws.map iTr))]
def unPa : List CV → Option Pa
  | [.t (.v (.int .i64 c)), .t (.v (.int .i64 i)), .t (.v (.int .i64 a)), .t (.sl 4 x), .t (.sl 1 y)] => (unPks x).bind fun p => (unInts y).map fun w => ⟨c, i, ⟨a, p, w⟩⟩
  | _ => none
theorem unPa_ok {xs : List CV} {c : Pa} (h : unPa xs = some c) : xs = c.cv := by
  unfold unPa at h
  split at h
  · obtain ⟨p, h1, h2⟩ := Option.bind_eq_some_iff.1 h
    obtain ⟨w, h3, h4⟩ := Option.map_eq_some_iff.1 h2
    subst h4
    rw [unPks_ok h1, unInts_ok h3]
    rfl
  · cases h
attribute [go_sem] unPa Pa.cv
def kj1_0_1 (n : Int) (b : Bg) : Option TV := if bgBig b = true then some (int (szBgF b n)) else none
def kj1_0_0 (n : Int) (r0 : List CV) : Option TV := (unBg r0).bind (kj1_0_1 n)
def kj1_0 : List TV → Option TV
  | [.agg r0, .c (.t (.v (.int .i64 n)))] => kj1_0_0 n r0
  | _ => none
def kj1_1_2 (c : Bg) (d : Bg) : Option TV := if bgOk c = true then some (bool (decide (c = d))) else none
def kj1_1_1 (r1 : List CV) (c : Bg) : Option TV := (unBg r1).bind (kj1_1_2 c)
def kj1_1_0 (r0 : List CV) (r1 : List CV) : Option TV := (unBg r0).bind (kj1_1_1 r1)
def kj1_1 : List TV → Option TV
  | [.agg r0, .agg r1] => kj1_1_0 r0 r1
  | _ => none
def kj1_2_1 (k : Int) (b : Bg) : Option TV := if b.ps = mkPks b.ps k ∧ b.ws = mkIs b.ws.length (k + (pkSum b.ps : Nat)) ∧ 0 ≤ k ∧ k + (pkSum b.ps : Nat) + (b.ws.length : Nat) ≤ 1099511627776 then some (int (k + (pkSum b.ps : Nat) + (b.ws.length : Nat))) else none
def kj1_2_0 (k : Int) (r0 : List CV) : Option TV := (unBg r0).bind (kj1_2_1 k)
def kj1_2 : List TV → Option TV
  | [.agg r0, .c (.t (.v (.int .i64 k)))] => kj1_2_0 k r0
  | _ => none
def kj1_call (f : FuncId) (args : List TV) : Option TV := if f = 10 then orO (kj1_0 args) (kd3.call f args) else if f = 16 then orO (kj1_1 args) (kd3.call f args) else if f = 29 then orO (kj1_2 args) (kd3.call f args) else kd3.call f args
def kj1 : Kn := { call := kj1_call, eqs := eqTys, callB := kd3.callB }
attribute [go_sem] kj1_0_0 kj1_0_1 kj1_0 kj1_1_0 kj1_1_1 kj1_1_2 kj1_1 kj1_2_0 kj1_2_1 kj1_2 kj1_call kj1
theorem kj1_ok : ∀ f args res, kj1_call f args = some res → TC Try.prog f args [] 1 res [] 1 := by
  intro f args res h
  unfold kj1_call at h
  split at h
  · rename_i e; subst e
    have hh := orO_elim h
    clear h
    rcases hh with h | h
    rotate_left
    · exact kD3.call _ _ _ h
    unfold kj1_0 at h
    split at h
    · rename_i r0 n; unfold kj1_0_0 at h
      obtain ⟨b, e0, h⟩ := Option.bind_eq_some_iff.1 h
      unfold kj1_0_1 at h
      split at h
      · rename_i hc; cases h; rw [unBg_ok e0]; exact szBg_tc b n hc
      · cases h
    · cases h
  split at h
  · rename_i e; subst e
    have hh := orO_elim h
    clear h
    rcases hh with h | h
    rotate_left
    · exact kD3.call _ _ _ h
    unfold kj1_1 at h
    split at h
    · rename_i r0 r1; unfold kj1_1_0 at h
      obtain ⟨c, e0, h⟩ := Option.bind_eq_some_iff.1 h
      unfold kj1_1_1 at h
      obtain ⟨d, e1, h⟩ := Option.bind_eq_some_iff.1 h
      unfold kj1_1_2 at h
      split at h
      · rename_i hc; cases h; rw [unBg_ok e0, unBg_ok e1]; exact eqBg_tc c d hc
      · cases h
    · cases h
  split at h
  · rename_i e; subst e
    have hh := orO_elim h
    clear h
    rcases hh with h | h
    rotate_left
    · exact kD3.call _ _ _ h
    unfold kj1_2 at h
    split at h
    · rename_i r0 k; unfold kj1_2_0 at h
      obtain ⟨b, e0, h⟩ := Option.bind_eq_some_iff.1 h
      unfold kj1_2_1 at h
      split at h
      · rename_i hc; cases h; rw [unBg_ok e0]; exact heldBg_tc b k hc.1 hc.2.1 hc.2.2.1 hc.2.2.2
      · cases h
    · cases h
  · exact kD3.call f args res h
theorem kJ1 : KnOk Try.prog kj1 := ⟨kj1_ok, eqTysOk, kD3.callB⟩
def kj2_0_2 (x : Int) (n : Nat) (m : Nat) (k : Int) (l : List Pk) (u : List Int) : CB := if n = l.length ∧ m = u.length ∧ 0 ≤ k ∧ k + (pkSum l : Nat) + (u.length : Nat) ≤ 1099511627776 then some (int (k + (pkSum l : Nat) + (u.length : Nat)), [(1, .nest 44 4 ((mkPks l k).map Pk.nc)), (2, .arr 3 1 ((mkIs u.length (k + (pkSum l : Nat))).map iTr))], 3) else none
def kj2_0_1 (x : Int) (n : Nat) (m : Nat) (k : Int) (r1 : List (List Tree)) (l : List Pk) : CB := (unInts r1).bind (kj2_0_2 x n m k l)
def kj2_0_0 (x : Int) (n : Nat) (m : Nat) (k : Int) (r0 : List (List NC)) (r1 : List (List Tree)) : CB := (unNcs r0).bind (kj2_0_1 x n m k r1)
def kj2_0 : List TV → List (Nat × AObj) → CB
  | [.agg [.t (.v (.int .i64 x)), .own 1 0 n, .own 2 0 m], .c (.t (.v (.int .i64 k)))], [(1, .nest 44 4 r0), (2, .arr 3 1 r1)] => kj2_0_0 x n m k r0 r1
  | _, _ => none
def kj2_call (f : FuncId) (args : List TV) (o : List (Nat × AObj)) : CB := if f = 18 then orO (kj2_0 args o) (kj1.callB f args o) else kj1.callB f args o
def kj2 : Kn := { call := kj1.call, eqs := eqTys, callB := kj2_call }
attribute [go_sem] kj2_0_0 kj2_0_1 kj2_0_2 kj2_0 kj2_call kj2
theorem kj2_ok : ∀ f args o res o1 n1, kj2_call f args o = some (res, o1, n1) → TC Try.prog f args o (o.length + 1) res o1 n1 := by
  intro f args o res o1 n1 h
  unfold kj2_call at h
  split at h
  · rename_i e; subst e
    have hh := orO_elim h
    clear h
    rcases hh with h | h
    rotate_left
    · exact kJ1.callB _ _ _ _ _ _ h
    unfold kj2_0 at h
    split at h
    · rename_i x n m k r0 r1; unfold kj2_0_0 at h
      have hb0 := Option.bind_eq_some_iff.1 h
      clear h
      obtain ⟨l, e0, h⟩ := hb0
      unfold kj2_0_1 at h
      have hb1 := Option.bind_eq_some_iff.1 h
      clear h
      obtain ⟨u, e1, h⟩ := hb1
      unfold kj2_0_2 at h
      split at h
      · rename_i hc; cases h; rw [unNcs_ok e0, unInts_ok e1]; obtain ⟨rfl, rfl, h1, h2⟩ := hc; exact markBg_tc ⟨x, l, u⟩ k h1 h2
      · cases h
    · cases h
  · exact kJ1.callB f args o res o1 n1 h
theorem kJ2 : KnOk Try.prog kj2 := ⟨kJ1.call, eqTysOk, kj2_ok⟩
def kj3_0_0 (a1 : Int) (b1 : Int) : CB := if a1 = 0 ∧ b1 = 0 then some (bool true, [], 1) else none
def kj3_0 : List TV → List (Nat × AObj) → CB
  | [.agg [.t (.v (.int .i64 a1)), .t (.v (.slice none 0 0)), .t (.v (.slice none 0 0))], .agg [.t (.v (.int .i64 b1)), .t (.v (.slice none 0 0)), .t (.v (.slice none 0 0))]], [] => kj3_0_0 a1 b1
  | _, _ => none
def kj3_1_0 (a1 : Int) (k : Int) : CB := if a1 = 0 then some (int k, [], 1) else none
def kj3_1 : List TV → List (Nat × AObj) → CB
  | [.agg [.t (.v (.int .i64 a1)), .t (.v (.slice none 0 0)), .t (.v (.slice none 0 0))], .c (.t (.v (.int .i64 k)))], [] => kj3_1_0 a1 k
  | _, _ => none
def kj3_2_0 (a1 : Int) (k : Int) : CB := if a1 = 0 ∧ 0 ≤ k then some (int k, [], 1) else none
def kj3_2 : List TV → List (Nat × AObj) → CB
  | [.agg [.t (.v (.int .i64 a1)), .t (.v (.slice none 0 0)), .t (.v (.slice none 0 0))], .c (.t (.v (.int .i64 k)))], [] => kj3_2_0 a1 k
  | _, _ => none
def kj3_call (f : FuncId) (args : List TV) (o : List (Nat × AObj)) : CB := if f = 16 then orO (kj3_0 args o) (kd3.callB f args o) else if f = 18 then orO (kj3_1 args o) (kd3.callB f args o) else if f = 29 then orO (kj3_2 args o) (kd3.callB f args o) else kd3.callB f args o
def kj3 : Kn := { call := kd3.call, eqs := eqTys, callB := kj3_call }
attribute [go_sem] kj3_0_0 kj3_0 kj3_1_0 kj3_1 kj3_2_0 kj3_2 kj3_call kj3
theorem kj3_ok : ∀ f args o res o1 n1, kj3_call f args o = some (res, o1, n1) → TC Try.prog f args o (o.length + 1) res o1 n1 := by
  intro f args o res o1 n1 h
  unfold kj3_call at h
  split at h
  · rename_i e; subst e
    have hh := orO_elim h
    clear h
    rcases hh with h | h
    rotate_left
    · exact kD3.callB _ _ _ _ _ _ h
    unfold kj3_0 at h
    split at h
    · rename_i a1 b1; unfold kj3_0_0 at h
      split at h
      · rename_i hc; cases h; obtain ⟨rfl, rfl⟩ := hc; exact eqBg0_tc
      · cases h
    · cases h
  split at h
  · rename_i e; subst e
    have hh := orO_elim h
    clear h
    rcases hh with h | h
    rotate_left
    · exact kD3.callB _ _ _ _ _ _ h
    unfold kj3_1 at h
    split at h
    · rename_i a1 k; unfold kj3_1_0 at h
      split at h
      · rename_i hc; cases h; obtain rfl := hc; exact markBg0_tc k
      · cases h
    · cases h
  split at h
  · rename_i e; subst e
    have hh := orO_elim h
    clear h
    rcases hh with h | h
    rotate_left
    · exact kD3.callB _ _ _ _ _ _ h
    unfold kj3_2 at h
    split at h
    · rename_i a1 k; unfold kj3_2_0 at h
      split at h
      · rename_i hc; cases h; obtain ⟨rfl, h0⟩ := hc; exact heldBg0_tc k h0
      · cases h
    · cases h
  · exact kD3.callB f args o res o1 n1 h
theorem kJ3 : KnOk Try.prog kj3 := ⟨kD3.call, eqTysOk, kj3_ok⟩
theorem eqPa_tc (a c : Pa) (h : bgOk a.b = true) : TC Try.prog 15 [.agg a.cv, .agg c.cv] [] 1 (bool (decide (a = c))) [] 1 := by
  refine tc_intro Try.func15 rfl 21 rfl (Nat.le_of_ble_eq_true rfl) (by decide) [4] rfl (by intro id x h; cases h) ?_
  intro w0 E0
  have kOk := kJ1
  obtain ⟨x, y, ⟨n, l, u⟩⟩ := a
  obtain ⟨x', y', ⟨n', l', u'⟩⟩ := c
  simp only [Pa.cv]
  simp only at h
  have hp := h
  repeat' (fail_if_success (with_reducible apply amR_id)); first
    | (refine guardP_mk (fun h => ?_) (fun h => ?_) <;> (refine go1 ?_; try simp only [decide_eq_true_eq, decide_eq_false_iff_not, Bool.not_true, Bool.not_false, Bool.not_eq_true', Bool.not_eq_false', beq_iff_eq, bne_iff_ne, beq_eq_false_iff_ne, bne_eq_false_iff_eq, ne_eq, Bool.false_eq_true, reduceCtorEq] at h))
    | (refine hK _ ?_; clear hK K Q1)
    | (refine ⟨by first | omega | (simp only [List.length_map, List.length_append, List.length_cons, List.length_nil, List.length_replicate, List.length_drop, List.length_take]; omega), by unfold maxLen; first | omega | (simp only [List.length_map, List.length_append, List.length_cons, List.length_nil, List.length_replicate, List.length_drop, List.length_take]; omega), ?_⟩)
    | (refine hK _ _ rfl ?_; clear hK K; try refine go1 ?_)
    | (refine am_retP rfl ?_ rfl; first | refine go ?_ | rfl)
    | (refine am_retC [] rfl ?_ rfl rfl; first | refine go ?_ | rfl)
    | (refine wkq ?_)
    | (refine am_rs tabOk kOk rfl fun K Q1 hK => ?_; refine go1 ?_)
    | (refine am_reg tabOk kOk rfl fun K Q1 hK => ?_; refine go1 ?_)
    | (refine am_ds mixed tabOk kOk rfl rfl fun K hK => ?_; refine go1 ?_)
    | (refine am_dreg mixed tabOk kOk rfl rfl fun K hK => ?_; refine go1 ?_)
  all_goals simp_all
theorem markPa_tc (a : Pa) (k : Int) (h0 : 0 ≤ k) (hk : k + (pkSum a.b.ps : Nat) + (a.b.ws.length : Nat) ≤ 1099511627776) : TC Try.prog 20 [.agg [ci a.co, ci a.id, ci a.b.nx, .own 1 0 a.b.ps.length, .own 2 0 a.b.ws.length], int k] [(1, .nest 44 4 (a.b.ps.map Pk.nc)), (2, .arr 3 1 (a.b.ws.map iTr))] 3
    (int (k + (pkSum a.b.ps : Nat) + (a.b.ws.length : Nat))) [(1, .nest 44 4 ((mkPks a.b.ps k).map Pk.nc)), (2, .arr 3 1 ((mkIs a.b.ws.length (k + (pkSum a.b.ps : Nat))).map iTr))] 3 := by
  refine tc_intro Try.func20 rfl 10 rfl (Nat.le_of_ble_eq_true rfl) (by decide) [4] rfl dom2 ?_
  intro w0 E0
  have kOk := kJ2
  obtain ⟨x, y, ⟨n, l, u⟩⟩ := a
  simp only at hk
  have hp := (show (0 ≤ k) = True ∧ (k + (pkSum l : Int) + (u.length : Int) ≤ 1099511627776) = True from ⟨eq_true h0, eq_true hk⟩)
  refine wk1 ?_
  refine am_retB [(1, 1), (2, 2)] rfl ?_ ?_ rfl <;> first | rfl | (refine go ?_; rfl) | refine go ?_ | (simp only [go_sem, ↓reduceIte, List.map_cons, List.map_nil]; done) | (simp [go_sem]; intro _ _; rfl)
theorem heldPa_tc (a : Pa) (k : Int) (h1 : a.b.ps = mkPks a.b.ps k) (h2 : a.b.ws = mkIs a.b.ws.length (k + (pkSum a.b.ps : Nat))) (h0 : 0 ≤ k) (hk : k + (pkSum a.b.ps : Nat) + (a.b.ws.length : Nat) ≤ 1099511627776) : TC Try.prog 21 [.agg a.cv, int k] [] 1 (int (k + (pkSum a.b.ps : Nat) + (a.b.ws.length : Nat))) [] 1 := by
  refine tc_intro Try.func21 rfl 12 rfl (Nat.le_of_ble_eq_true rfl) (by decide) [4] rfl (by intro id x h; cases h) ?_
  intro w0 E0
  have kOk := kJ1
  obtain ⟨x, y, ⟨n, l, u⟩⟩ := a
  simp only at hk h1 h2
  simp only [Pa.cv]
  have hp := (show (l = mkPks l k) = True ∧ (u = mkIs u.length (k + (pkSum l : Nat))) = True ∧ (0 ≤ k) = True ∧ (k + (pkSum l : Int) + (u.length : Int) ≤ 1099511627776) = True ∧ (k + (pkSum l : Int) + (u.length : Int) < 0) = False from
    ⟨eq_true h1, eq_true h2, eq_true h0, eq_true hk, eq_false (by omega)⟩)
  clear h1 h2
  refine wk1 ?_
  refine am_retP rfl ?_ rfl
  first | rfl | (refine go ?_; rfl)
theorem eqPa0_tc : TC Try.prog 15 [pa0, pa0] [] 1 (bool true) [] 1 := by
  refine tc_intro Try.func15 rfl 21 rfl (Nat.le_of_ble_eq_true rfl) (by decide) [4] rfl (by intro id x h; cases h) ?_
  intro w0 E0
  have kOk := kJ3
  have hp := (show (∀ x : Int, (x != x) = false) from fun x => by simp)
  unfold pa0
  refine wk1 ?_
  refine am_retP rfl ?_ rfl
  first | rfl | (refine go ?_; rfl)
theorem markPa0_tc (k : Int) : TC Try.prog 20 [pa0, int k] [] 1 (int k) [] 1 := by
  refine tc_intro Try.func20 rfl 10 rfl (Nat.le_of_ble_eq_true rfl) (by decide) [4] rfl (by intro id x h; cases h) ?_
  intro w0 E0
  have kOk := kJ3
  have hp := True.intro
  unfold pa0
  refine wk1 ?_
  refine am_retP rfl ?_ rfl
  first | rfl | (refine go ?_; rfl)
theorem heldPa0_tc (k : Int) (h0 : 0 ≤ k) : TC Try.prog 21 [pa0, int k] [] 1 (int k) [] 1 := by
  refine tc_intro Try.func21 rfl 12 rfl (Nat.le_of_ble_eq_true rfl) (by decide) [4] rfl (by intro id x h; cases h) ?_
  intro w0 E0
  have kOk := kJ3
  have hp := (show (0 ≤ k) = True ∧ (k < 0) = False from ⟨eq_true h0, eq_false (by omega)⟩)
  unfold pa0
  refine wk1 ?_
  refine am_retP rfl ?_ rfl
  first | rfl | (refine go ?_; rfl)
end Go.Proofs.YthnpbfljoghbmaaA
