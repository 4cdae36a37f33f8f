/- Bags: a wall put up or taken down; the law holds at every argument. -/
import Derived.Test.YthnpbfljoghbmaaDLaw
namespace Go.Proofs.YthnpbfljoghbmaaA
open Go.Proofs
set_option autoImplicit false
set_option linter.unusedVariables false
set_option linter.unusedSimpArgs false
set_option maxRecDepth 4000
@[go_sem] theorem flat_iTr (l : List Int) : flatRows (l.map iTr) = true := flatRows_map (fun _ => rfl) l
@[go_sem] theorem take_mkPks {β : Type} (f : Pk → β) (l : List Pk) (k : Int) : ((mkPks l k).map f).take l.length = (mkPks l k).map f := List.take_of_length_le (by simp [mkPks_len])
@[go_sem] theorem le_mkPks {β : Type} (f : Pk → β) (l : List Pk) (k : Int) : (l.length ≤ ((mkPks l k).map f).length) = True := by simp [mkPks_len]
attribute [go_sem] mkIs_len mkPks_len
def wlR (b : Bg) (id up : Int) : List (Nat × AObj) × TV × Nat :=
  if bgF b.nx b.ps b.ws = false then ([], bg0, 1) else
    if inB id 1 7 = false then ([(1, .nest 44 4 (b.ps.map Pk.nc)), (2, .arr 3 1 (b.ws.map iTr))], .agg [ci b.nx, .own 1 0 b.ps.length, .own 2 0 b.ws.length], 3)
    else ([(1, .nest 44 4 (b.ps.map Pk.nc)), (2, .arr 3 1 ((wlGo b.ws id up 7 1).map iTr))], .agg [ci b.nx, .own 1 0 b.ps.length, .own 2 0 (wlGo b.ws id up 7 1).length], 3)
def wlV (b : Bg) (id up : Int) : TV :=
  if bgF b.nx b.ps b.ws = false then bg0 else if inB id 1 7 = false then .agg b.cv else .agg (⟨b.nx, b.ps, wlGo b.ws id up 7 1⟩ : Bg).cv
theorem wlR_tc (b : Bg) (id up : Int) (h : bgOk b = true) : TC Try.prog 28 [.agg b.cv, int id, int up] [] 1 (wlR b id up).2.1 (wlR b id up).1 (wlR b id up).2.2 := by
  unfold wlR
  split
  · rename_i h1; exact wallI0_tc b id up h h1
  · rename_i h1
    have h1' : bgF b.nx b.ps b.ws = true := by simpa using h1
    split
    · rename_i h2; exact wallI1_tc b id up h h1' h2
    · rename_i h2; exact wallI2_tc b id up h h1' (by simpa using h2)
theorem wlV_tc (b : Bg) (id up : Int) (h : bgOk b = true) : TC Try.prog 27 [.agg b.cv, int id, int up] [] 1 (wlV b id up) [] 1 := by
  unfold wlV
  split
  · rename_i h1; exact wallS0_tc b id up h h1
  · rename_i h1
    have h1' : bgF b.nx b.ps b.ws = true := by simpa using h1
    split
    · rename_i h2; exact wallS1_tc b id up h h1' h2
    · rename_i h2; exact wallS2_tc b id up h h1' (by simpa using h2)
attribute [go_sem] wlR wlV bg0
def kg1_0_1 (n : Int) (b : Bg) : Option TV := if bgBig b = true then some (int (szBgF b n)) else none
def kg1_0_0 (n : Int) (r0 : List CV) : Option TV := (unBg r0).bind (kg1_0_1 n)
def kg1_0 : List TV → Option TV
  | [.agg r0, .c (.t (.v (.int .i64 n)))] => kg1_0_0 n r0
  | _ => none
def kg1_1_2 (c : Bg) (d : Bg) : Option TV := if bgOk c = true then some (bool (decide (c = d))) else none
def kg1_1_1 (r1 : List CV) (c : Bg) : Option TV := (unBg r1).bind (kg1_1_2 c)
def kg1_1_0 (r0 : List CV) (r1 : List CV) : Option TV := (unBg r0).bind (kg1_1_1 r1)
def kg1_1 : List TV → Option TV
  | [.agg r0, .agg r1] => kg1_1_0 r0 r1
  | _ => none
def kg1_2_1 (k : Int) (b : Bg) : Option TV := if b.ps = mkPks b.ps k ∧ b.ws = mkIs b.ws.length (k + (pkSum b.ps : Nat)) ∧ 0 ≤ k ∧ k + (pkSum b.ps : Nat) + (b.ws.length : Nat) ≤ 1099511627776 then some (int (k + (pkSum b.ps : Nat) + (b.ws.length : Nat))) else none
def kg1_2_0 (k : Int) (r0 : List CV) : Option TV := (unBg r0).bind (kg1_2_1 k)
def kg1_2 : List TV → Option TV
  | [.agg r0, .c (.t (.v (.int .i64 k)))] => kg1_2_0 k r0
  | _ => none
def kg1_call (f : FuncId) (args : List TV) : Option TV := if f = 10 then orO (kg1_0 args) (kd3.call f args) else if f = 16 then orO (kg1_1 args) (kd3.call f args) else if f = 29 then orO (kg1_2 args) (kd3.call f args) else kd3.call f args
def kg1 : Kn := { call := kg1_call, eqs := eqTys, callB := kd3.callB }
attribute [go_sem] kg1_0_0 kg1_0_1 kg1_0 kg1_1_0 kg1_1_1 kg1_1_2 kg1_1 kg1_2_0 kg1_2_1 kg1_2 kg1_call kg1
theorem kg1_ok : ∀ f args res, kg1_call f args = some res → TC Try.prog f args [] 1 res [] 1 := by
  intro f args res h
  unfold kg1_call at h
  split at h
  · rename_i e; subst e
    have hh := orO_elim h
    clear h
    rcases hh with h | h
    rotate_left
    · exact kD3.call _ _ _ h
    unfold kg1_0 at h
    split at h
    · rename_i r0 n; unfold kg1_0_0 at h
      obtain ⟨b, e0, h⟩ := Option.bind_eq_some_iff.1 h
      unfold kg1_0_1 at h
      split at h
      · rename_i hc; cases h; rw [unBg_ok e0]; exact szBg_tc b n hc
      · cases h
    · cases h
  split at h
  · rename_i e; subst e
    have hh := orO_elim h
    clear h
    rcases hh with h | h
    rotate_left
    · exact kD3.call _ _ _ h
    unfold kg1_1 at h
    split at h
    · rename_i r0 r1; unfold kg1_1_0 at h
      obtain ⟨c, e0, h⟩ := Option.bind_eq_some_iff.1 h
      unfold kg1_1_1 at h
      obtain ⟨d, e1, h⟩ := Option.bind_eq_some_iff.1 h
      unfold kg1_1_2 at h
      split at h
      · rename_i hc; cases h; rw [unBg_ok e0, unBg_ok e1]; exact eqBg_tc c d hc
      · cases h
    · cases h
  split at h
  · rename_i e; subst e
    have hh := orO_elim h
    clear h
    rcases hh with h | h
    rotate_left
    · exact kD3.call _ _ _ h
    unfold kg1_2 at h
    split at h
    · rename_i r0 k; unfold kg1_2_0 at h
      obtain ⟨b, e0, h⟩ := Option.bind_eq_some_iff.1 h
      unfold kg1_2_1 at h
      split at h
      · rename_i hc; cases h; rw [unBg_ok e0]; exact heldBg_tc b k hc.1 hc.2.1 hc.2.2.1 hc.2.2.2
      · cases h
    · cases h
  · exact kD3.call f args res h
theorem kG1 : KnOk Try.prog kg1 := ⟨kg1_ok, eqTysOk, kD3.callB⟩
def kg2_0_1 (b : Bg) : Option TV := if bgOk b = true then some (.agg b.cv) else none
def kg2_0_0 (r0 : List CV) : Option TV := (unBg r0).bind (kg2_0_1)
def kg2_0 : List TV → Option TV
  | [.agg r0] => kg2_0_0 r0
  | _ => none
def kg2_1_1 (id : Int) (up : Int) (b : Bg) : Option TV := if bgOk b = true then some (wlV b id up) else none
def kg2_1_0 (id : Int) (up : Int) (r0 : List CV) : Option TV := (unBg r0).bind (kg2_1_1 id up)
def kg2_1 : List TV → Option TV
  | [.agg r0, .c (.t (.v (.int .i64 id))), .c (.t (.v (.int .i64 up)))] => kg2_1_0 id up r0
  | _ => none
def kg2_call (f : FuncId) (args : List TV) : Option TV := if f = 12 then orO (kg2_0 args) (kg1.call f args) else if f = 27 then orO (kg2_1 args) (kg1.call f args) else kg1.call f args
def kg2 : Kn := { call := kg2_call, eqs := eqTys, callB := kg1.callB }
attribute [go_sem] kg2_0_0 kg2_0_1 kg2_0 kg2_1_0 kg2_1_1 kg2_1 kg2_call kg2
theorem kg2_ok : ∀ f args res, kg2_call f args = some res → TC Try.prog f args [] 1 res [] 1 := by
  intro f args res h
  unfold kg2_call at h
  split at h
  · rename_i e; subst e
    have hh := orO_elim h
    clear h
    rcases hh with h | h
    rotate_left
    · exact kG1.call _ _ _ h
    unfold kg2_0 at h
    split at h
    · rename_i r0; unfold kg2_0_0 at h
      obtain ⟨b, e0, h⟩ := Option.bind_eq_some_iff.1 h
      unfold kg2_0_1 at h
      split at h
      · rename_i hc; cases h; rw [unBg_ok e0]; exact toBgF_tc b hc
      · cases h
    · cases h
  split at h
  · rename_i e; subst e
    have hh := orO_elim h
    clear h
    rcases hh with h | h
    rotate_left
    · exact kG1.call _ _ _ h
    unfold kg2_1 at h
    split at h
    · rename_i r0 id up; unfold kg2_1_0 at h
      obtain ⟨b, e0, h⟩ := Option.bind_eq_some_iff.1 h
      unfold kg2_1_1 at h
      split at h
      · rename_i hc; cases h; rw [unBg_ok e0]; exact wlV_tc b id up hc
      · cases h
    · cases h
  · exact kG1.call f args res h
theorem kG2 : KnOk Try.prog kg2 := ⟨kg2_ok, eqTysOk, kG1.callB⟩
def kg3_0_1 (id : Int) (up : Int) (b : Bg) : CB := if bgOk b = true then some ((wlR b id up).2.1, (wlR b id up).1, (wlR b id up).2.2) else none
def kg3_0_0 (id : Int) (up : Int) (q0 : List CV) : CB := (unBg q0).bind (kg3_0_1 id up)
def kg3_0 : List TV → List (Nat × AObj) → CB
  | [.agg q0, .c (.t (.v (.int .i64 id))), .c (.t (.v (.int .i64 up)))], [] => kg3_0_0 id up q0
  | _, _ => none
def kg3_call (f : FuncId) (args : List TV) (o : List (Nat × AObj)) : CB := if f = 28 then orO (kg3_0 args o) (kg2.callB f args o) else kg2.callB f args o
def kg3 : Kn := { call := kg2.call, eqs := eqTys, callB := kg3_call }
attribute [go_sem] kg3_0_0 kg3_0_1 kg3_0 kg3_call kg3
theorem kg3_ok : ∀ f args o res o1 n1, kg3_call f args o = some (res, o1, n1) → TC Try.prog f args o (o.length + 1) res o1 n1 := by
  intro f args o res o1 n1 h
  unfold kg3_call at h
  split at h
  · rename_i e; subst e
    have hh := orO_elim h
    clear h
    rcases hh with h | h
    rotate_left
    · exact kG2.callB _ _ _ _ _ _ h
    unfold kg3_0 at h
    split at h
    · rename_i q0 id up; unfold kg3_0_0 at h
      have hb0 := Option.bind_eq_some_iff.1 h
      clear h
      obtain ⟨b, e0, h⟩ := hb0
      unfold kg3_0_1 at h
      split at h
      · rename_i hc; cases h; rw [unBg_ok e0]; exact wlR_tc b id up hc
      · cases h
    · cases h
  · exact kG2.callB f args o res o1 n1 h
theorem kG3 : KnOk Try.prog kg3 := ⟨kG2.call, eqTysOk, kg3_ok⟩
def kg4_0_0 (a1 : Int) (b1 : Int) : CB := if a1 = 0 ∧ b1 = 0 then some (bool true, [], 1) else none
def kg4_0 : List TV → List (Nat × AObj) → CB
  | [.agg [.t (.v (.int .i64 a1)), .t (.v (.slice none 0 0)), .t (.v (.slice none 0 0))], .agg [.t (.v (.int .i64 b1)), .t (.v (.slice none 0 0)), .t (.v (.slice none 0 0))]], [] => kg4_0_0 a1 b1
  | _, _ => none
def kg4_1_0 (a1 : Int) (k : Int) : CB := if a1 = 0 then some (int k, [], 1) else none
def kg4_1 : List TV → List (Nat × AObj) → CB
  | [.agg [.t (.v (.int .i64 a1)), .t (.v (.slice none 0 0)), .t (.v (.slice none 0 0))], .c (.t (.v (.int .i64 k)))], [] => kg4_1_0 a1 k
  | _, _ => none
def kg4_2_0 (a1 : Int) (k : Int) : CB := if a1 = 0 ∧ 0 ≤ k then some (int k, [], 1) else none
def kg4_2 : List TV → List (Nat × AObj) → CB
  | [.agg [.t (.v (.int .i64 a1)), .t (.v (.slice none 0 0)), .t (.v (.slice none 0 0))], .c (.t (.v (.int .i64 k)))], [] => kg4_2_0 a1 k
  | _, _ => none
def kg4_3_1 (id : Int) (up : Int) (b : Bg) : CB := if bgOk b = true then some ((wlR b id up).2.1, (wlR b id up).1, (wlR b id up).2.2) else none
def kg4_3_0 (id : Int) (up : Int) (q0 : List CV) : CB := (unBg q0).bind (kg4_3_1 id up)
def kg4_3 : List TV → List (Nat × AObj) → CB
  | [.agg q0, .c (.t (.v (.int .i64 id))), .c (.t (.v (.int .i64 up)))], [] => kg4_3_0 id up q0
  | _, _ => none
def kg4_4_1 (b : Bg) : CB := if bgOk b = true then some (.agg [ci b.nx, .own 1 0 b.ps.length, .own 2 0 b.ws.length], [(1, .nest 44 4 (b.ps.map Pk.nc)), (2, .arr 3 1 (b.ws.map iTr))], 3) else none
def kg4_4_0 (q0 : List CV) : CB := (unBg q0).bind (kg4_4_1)
def kg4_4 : List TV → List (Nat × AObj) → CB
  | [.agg q0], [] => kg4_4_0 q0
  | _, _ => none
def kg4_call (f : FuncId) (args : List TV) (o : List (Nat × AObj)) : CB := if f = 16 then orO (kg4_0 args o) (kg1.callB f args o) else if f = 18 then orO (kg4_1 args o) (kg1.callB f args o) else if f = 29 then orO (kg4_2 args o) (kg1.callB f args o) else if f = 28 then orO (kg4_3 args o) (kg1.callB f args o) else if f = 12 then orO (kg4_4 args o) (kg1.callB f args o) else kg1.callB f args o
def kg4 : Kn := { call := kg1.call, eqs := eqTys, callB := kg4_call }
attribute [go_sem] kg4_0_0 kg4_0 kg4_1_0 kg4_1 kg4_2_0 kg4_2 kg4_3_0 kg4_3_1 kg4_3 kg4_4_0 kg4_4_1 kg4_4 kg4_call kg4
theorem kg4_ok : ∀ f args o res o1 n1, kg4_call f args o = some (res, o1, n1) → TC Try.prog f args o (o.length + 1) res o1 n1 := by
  intro f args o res o1 n1 h
  unfold kg4_call at h
  split at h
  · rename_i e; subst e
    have hh := orO_elim h
    clear h
    rcases hh with h | h
    rotate_left
    · exact kG1.callB _ _ _ _ _ _ h
    unfold kg4_0 at h
    split at h
    · rename_i a1 b1; unfold kg4_0_0 at h
      split at h
      · rename_i hc; cases h; obtain ⟨rfl, rfl⟩ := hc; exact eqBg0_tc
      · cases h
    · cases h
  split at h
  · rename_i e; subst e
    have hh := orO_elim h
    clear h
    rcases hh with h | h
    rotate_left
    · exact kG1.callB _ _ _ _ _ _ h
    unfold kg4_1 at h
    split at h
    · rename_i a1 k; unfold kg4_1_0 at h
      split at h
      · rename_i hc; cases h; obtain rfl := hc; exact markBg0_tc k
      · cases h
    · cases h
  split at h
  · rename_i e; subst e
    have hh := orO_elim h
    clear h
    rcases hh with h | h
    rotate_left
    · exact kG1.callB _ _ _ _ _ _ h
    unfold kg4_2 at h
    split at h
    · rename_i a1 k; unfold kg4_2_0 at h
      split at h
      · rename_i hc; cases h; obtain ⟨rfl, h0⟩ := hc; exact heldBg0_tc k h0
      · cases h
    · cases h
  split at h
  · rename_i e; subst e
    have hh := orO_elim h
    clear h
    rcases hh with h | h
    rotate_left
    · exact kG1.callB _ _ _ _ _ _ h
    unfold kg4_3 at h
    split at h
    · rename_i q0 id up; unfold kg4_3_0 at h
      have hb0 := Option.bind_eq_some_iff.1 h
      clear h
      obtain ⟨b, e0, h⟩ := hb0
      unfold kg4_3_1 at h
      split at h
      · rename_i hc; cases h; rw [unBg_ok e0]; exact wlR_tc b id up hc
      · cases h
    · cases h
  split at h
  · rename_i e; subst e
    have hh := orO_elim h
    clear h
    rcases hh with h | h
    rotate_left
    · exact kG1.callB _ _ _ _ _ _ h
    unfold kg4_4 at h
    split at h
    · rename_i q0; unfold kg4_4_0 at h
      have hb0 := Option.bind_eq_some_iff.1 h
      clear h
      obtain ⟨b, e0, h⟩ := hb0
      unfold kg4_4_1 at h
      split at h
      · rename_i hc; cases h; rw [unBg_ok e0]; exact toBg_tc b hc
      · cases h
    · cases h
  · exact kG1.callB f args o res o1 n1 h
theorem kG4 : KnOk Try.prog kg4 := ⟨kG1.call, eqTysOk, kg4_ok⟩
def kg5_0_2 (x : Int) (n : Nat) (m : Nat) (k : Int) (l : List Pk) (u : List Int) : CB := if n = l.length ∧ m = u.length ∧ 0 ≤ k ∧ k + (pkSum l : Nat) + (u.length : Nat) ≤ 1099511627776 then some (int (k + (pkSum l : Nat) + (u.length : Nat)), [(1, .nest 44 4 ((mkPks l k).map Pk.nc)), (2, .arr 3 1 ((mkIs u.length (k + (pkSum l : Nat))).map iTr))], 3) else none
def kg5_0_1 (x : Int) (n : Nat) (m : Nat) (k : Int) (r1 : List (List Tree)) (l : List Pk) : CB := (unInts r1).bind (kg5_0_2 x n m k l)
def kg5_0_0 (x : Int) (n : Nat) (m : Nat) (k : Int) (r0 : List (List NC)) (r1 : List (List Tree)) : CB := (unNcs r0).bind (kg5_0_1 x n m k r1)
def kg5_0 : List TV → List (Nat × AObj) → CB
  | [.agg [.t (.v (.int .i64 x)), .own 1 0 n, .own 2 0 m], .c (.t (.v (.int .i64 k)))], [(1, .nest 44 4 r0), (2, .arr 3 1 r1)] => kg5_0_0 x n m k r0 r1
  | _, _ => none
def kg5_call (f : FuncId) (args : List TV) (o : List (Nat × AObj)) : CB := if f = 18 then orO (kg5_0 args o) (kg4.callB f args o) else kg4.callB f args o
def kg5 : Kn := { call := kg4.call, eqs := eqTys, callB := kg5_call }
attribute [go_sem] kg5_0_0 kg5_0_1 kg5_0_2 kg5_0 kg5_call kg5
theorem kg5_ok : ∀ f args o res o1 n1, kg5_call f args o = some (res, o1, n1) → TC Try.prog f args o (o.length + 1) res o1 n1 := by
  intro f args o res o1 n1 h
  unfold kg5_call at h
  split at h
  · rename_i e; subst e
    have hh := orO_elim h
    clear h
    rcases hh with h | h
    rotate_left
    · exact kG4.callB _ _ _ _ _ _ h
    unfold kg5_0 at h
    split at h
    · rename_i x n m k r0 r1; unfold kg5_0_0 at h
      have hb0 := Option.bind_eq_some_iff.1 h
      clear h
      obtain ⟨l, e0, h⟩ := hb0
      unfold kg5_0_1 at h
      have hb1 := Option.bind_eq_some_iff.1 h
      clear h
      obtain ⟨u, e1, h⟩ := hb1
      unfold kg5_0_2 at h
      split at h
      · rename_i hc; cases h; rw [unNcs_ok e0, unInts_ok e1]; obtain ⟨rfl, rfl, h1, h2⟩ := hc; exact markBg_tc ⟨x, l, u⟩ k h1 h2
      · cases h
    · cases h
  · exact kG4.callB f args o res o1 n1 h
theorem kG5 : KnOk Try.prog kg5 := ⟨kG4.call, eqTysOk, kg5_ok⟩
theorem szBg_ok {b : Bg} (h1 : bgBig b = true) (h2 : b.ws.length ≤ maxLen) (h : ¬ szBgF b 1048576 < 0) : bgOk b = true := by
  obtain ⟨hl, hb⟩ := of_decide_eq_true h1
  unfold maxLen at hl h2
  unfold szBgF at h
  split at h
  · omega
  rename_i h3
  split at h
  · omega
  rename_i h4
  unfold szPksF at h3
  split at h3
  · omega
  rename_i h5
  have e : IntKind.i64.wrap (1048576 - (b.ps.length : Int)) = 1048576 - (b.ps.length : Int) := by rw [IntKind.wrap_i64]; omega
  have hps : szPksF b.ps 1048576 = szPkGo b.ps (1048576 - (b.ps.length : Int)) := by unfold szPksF; rw [if_neg h5, e]
  rw [e] at h5 h3
  obtain ⟨h6, h7⟩ := szPkGo_le hb (by omega) (by omega) h3
  rw [hps] at h4
  unfold szIs at h4
  have e2 : IntKind.i64.wrap (szPkGo b.ps (1048576 - (b.ps.length : Int)) - (b.ws.length : Int)) = szPkGo b.ps (1048576 - (b.ps.length : Int)) - (b.ws.length : Int) := by rw [IntKind.wrap_i64]; omega
  rw [e2] at h4
  split at h4
  · omega
  rename_i h8
  have hsum : ∀ l : List Pk, pkSum l = 3 * l.length + (l.map fun p => p.bytes.length).sum := fun l => by
    induction l with
    | nil => rfl
    | cons p l ih => rw [pkSum_cons, ih]; simp; omega
  have hmem : ∀ (l : List Pk) (p : Pk), p ∈ l → p.bytes.length ≤ (l.map fun p => p.bytes.length).sum := fun l => by
    induction l with
    | nil => intro p hp; cases hp
    | cons q l ih =>
      intro p hp
      rw [List.map_cons, List.sum_cons]
      rcases List.mem_cons.1 hp with rfl | hp
      · omega
      · have := ih p hp; omega
  simp only [bgOk, pksOk, Bool.and_eq_true, decide_eq_true_eq]
  refine ⟨⟨by omega, fun p hp => ?_, ?_⟩, by omega⟩
  · have := hmem b.ps p hp; omega
  · rw [hsum]; omega
set_option maxHeartbeats 64000000 in
theorem lawWall_tc (b : Bg) (id up : Int) (h1 : bgBig b = true) (h2 : b.ws.length ≤ maxLen) : TC Try.prog 5 [.agg b.cv, int id, int up] [] 1 (bool true) [] 1 := by
  refine tc_intro Try.func5 rfl 79 rfl (Nat.le_of_ble_eq_true rfl) (by decide) [6] rfl (by intro id x h; cases h) ?_
  intro w0 E0
  have kOk := kG5
  by_cases hs : szBgF b 1048576 < 0
  · obtain ⟨n, l, u⟩ := b
    simp only [Bg.cv]
    have hp := And.intro h1 (eq_true hs)
    refine wk1 ?_
    refine am_retP rfl ?_ rfl
    first | rfl | (refine go ?_; rfl)
  have hok := szBg_ok h1 h2 hs
  obtain ⟨n, l, u⟩ := b
  simp only [Bg.cv]
  have hb := hok
  simp only [bgOk, Bool.and_eq_true, decide_eq_true_eq] at hb
  obtain ⟨p1, p2, p3⟩ := of_decide_eq_true hb.1
  have hu := hb.2
  have base := (show bgBig ⟨n, l, u⟩ = true ∧ bgOk ⟨n, l, u⟩ = true ∧ (szBgF ⟨n, l, u⟩ 1048576 < 0) = False ∧ (∀ x : Int, (x != x) = false) ∧ ((0 : Int) ≤ 1) = True ∧ (1 + (pkSum l : Int) + (u.length : Int) ≤ 1099511627776) = True ∧ (1 + (pkSum l : Int) + (u.length : Int) < 0) = False ∧ ((1 : Int) < 0) = False ∧ (∀ x : Bg, decide (x = x) = true) from
    ⟨h1, hok, eq_false hs, fun x => by simp, by simp, eq_true (by omega), eq_false (by omega), by simp, fun x => by simp⟩)
  cases hf : bgF n l u with
  | false =>
    have hp := And.intro base hf
    refine wk1 ?_
    refine am_rs tabOk kG2 rfl fun K Q1 hK => ?_
    refine go1 ?_
    refine hK _ ?_
    clear hK K Q1
    refine go1 ?_
    refine wk1 ?_
    refine am_retP rfl ?_ rfl
    first | rfl | (refine go ?_; rfl)
  | true =>
    cases hid : inB id 1 7 with
    | false =>
      have hp := And.intro base (And.intro hf hid)
      refine wk1 ?_
      refine am_rs tabOk kG2 rfl fun K Q1 hK => ?_
      refine go1 ?_
      refine hK _ ?_
      clear hK K Q1
      refine go1 ?_
      refine wk1 ?_
      refine am_retP rfl ?_ rfl
      first | rfl | (refine go ?_; rfl)
    | true =>
      have hlen : ∀ (d : Nat) (k : Int), (wlGo u id up d k).length ≤ d := fun d => by
        induction d with
        | zero => intro k; exact Nat.le_refl _
        | succ d ih =>
          intro k
          have := ih (k + 1)
          simp only [wlGo]
          split
          · simp; omega
          · omega
      have h7 := hlen 7 1
      generalize hW : wlGo u id up 7 1 = W at h7
      have hok2 : bgOk ⟨n, l, W⟩ = true := by
        simp only [bgOk, Bool.and_eq_true, decide_eq_true_eq]
        exact ⟨hb.1, by omega⟩
      have hp := And.intro base (And.intro hf (And.intro hid (show wlGo u id up 7 1 = W ∧ bgOk ⟨n, l, W⟩ = true ∧ (1 + (pkSum l : Int) + (W.length : Int) ≤ 1099511627776) = True ∧ (1 + (pkSum l : Int) + (W.length : Int) < 0) = False from ⟨hW, hok2, eq_true (by omega), eq_false (by omega)⟩)))
      refine wk1 ?_
      refine am_rs tabOk kG2 rfl fun K Q1 hK => ?_
      refine go1 ?_
      refine hK _ ?_
      clear hK K Q1
      refine go1 ?_
      refine wk1 ?_
      refine am_retP rfl ?_ rfl
      first | rfl | (refine go ?_; rfl)
end Go.Proofs.YthnpbfljoghbmaaA
