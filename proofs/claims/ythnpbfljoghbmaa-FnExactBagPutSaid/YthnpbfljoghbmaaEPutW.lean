/- Bags: a packet put in; the law. -/
import Derived.Test.YthnpbfljoghbmaaEPutL
namespace Go.Proofs.YthnpbfljoghbmaaA
open Go.Proofs
set_option autoImplicit false
set_option linter.unusedVariables false
set_option linter.unusedSimpArgs false
set_option maxRecDepth 4000
def ptR (b : Bg) (f t : Int) (l : List Int) : List (Nat × AObj) × TV × Nat :=
  if bgF b.nx b.ps b.ws = false then ([], pa0, 1) else
    if ptC b f t l = 0 then ([(1, .nest 44 4 ((b.ps ++ [(⟨b.nx, f, t, l⟩ : Pk)]).map Pk.nc)), (2, .arr 3 1 (b.ws.map iTr))], .agg [ci 0, ci b.nx, ci (b.nx + 1), .own 1 0 (b.ps.length + 1), .own 2 0 b.ws.length], 3)
    else ([(1, .nest 44 4 (b.ps.map Pk.nc)), (2, .arr 3 1 (b.ws.map iTr))], .agg [ci (ptC b f t l), ci 0, ci b.nx, .own 1 0 b.ps.length, .own 2 0 b.ws.length], 3)
def ptV (b : Bg) (f t : Int) (l : List Int) : TV :=
  if bgF b.nx b.ps b.ws = false then pa0 else if ptC b f t l = 0 then .agg [ci 0, ci b.nx, ci (b.nx + 1), .t (.sl 4 ((b.ps ++ [(⟨b.nx, f, t, l⟩ : Pk)]).map Pk.tr)), .t (.sl 1 (b.ws.map iTr))] else .agg [ci (ptC b f t l), ci 0, ci b.nx, .t (.sl 4 (b.ps.map Pk.tr)), .t (.sl 1 (b.ws.map iTr))]
theorem ptR_tc (b : Bg) (f t : Int) (l : List Int) (h : bgOk b = true) (hl : l.length ≤ 1048576) : TC Try.prog 14 [.agg b.cv, int f, int t, ro 1 (l.map bTr)] [] 1 (ptR b f t l).2.1 (ptR b f t l).1 (ptR b f t l).2.2 := by
  unfold ptR
  split
  · rename_i h1; exact putI0_tc b f t l h hl h1
  · rename_i h1
    have h1' : bgF b.nx b.ps b.ws = true := by simpa using h1
    split
    · rename_i h2; exact putI2_tc b f t l h hl h1' h2
    · rename_i h2; exact putI1_tc b f t l h hl h1' h2
theorem ptV_tc (b : Bg) (f t : Int) (l : List Int) (h : bgOk b = true) (hl : l.length ≤ 1048576) : TC Try.prog 11 [.agg b.cv, int f, int t, ro 1 (l.map bTr)] [] 1 (ptV b f t l) [] 1 := by
  unfold ptV
  split
  · rename_i h1; exact putS0_tc b f t l h hl h1
  · rename_i h1
    have h1' : bgF b.nx b.ps b.ws = true := by simpa using h1
    split
    · rename_i h2; exact putS2_tc b f t l h hl h1' h2
    · rename_i h2; exact putS1_tc b f t l h hl h1' h2
attribute [go_sem] ptR ptV pa0
theorem toBysF_tc (l : List Int) (h : l.length ≤ 1048576) : TC Try.prog 13 [ro 1 (l.map bTr)] [] 1 (ro 1 (l.map bTr)) [] 1 := by
  have := tc_frzR (toBys_tc l h)
  simpa [TV.frz, TV.frz1, CV.frz] using this
def kl1_0_2 (a : Pa) (c : Pa) : Option TV := if bgOk a.b = true then some (bool (decide (a = c))) else none
def kl1_0_1 (r1 : List CV) (a : Pa) : Option TV := (unPa r1).bind (kl1_0_2 a)
def kl1_0_0 (r0 : List CV) (r1 : List CV) : Option TV := (unPa r0).bind (kl1_0_1 r1)
def kl1_0 : List TV → Option TV
  | [.agg r0, .agg r1] => kl1_0_0 r0 r1
  | _ => none
def kl1_1_1 (k : Int) (a : Pa) : Option TV := if a.b.ps = mkPks a.b.ps k ∧ a.b.ws = mkIs a.b.ws.length (k + (pkSum a.b.ps : Nat)) ∧ 0 ≤ k ∧ k + (pkSum a.b.ps : Nat) + (a.b.ws.length : Nat) ≤ 1099511627776 then some (int (k + (pkSum a.b.ps : Nat) + (a.b.ws.length : Nat))) else none
def kl1_1_0 (k : Int) (r0 : List CV) : Option TV := (unPa r0).bind (kl1_1_1 k)
def kl1_1 : List TV → Option TV
  | [.agg r0, .c (.t (.v (.int .i64 k)))] => kl1_1_0 k r0
  | _ => none
def kl1_call (f : FuncId) (args : List TV) : Option TV := if f = 15 then orO (kl1_0 args) (kj1.call f args) else if f = 21 then orO (kl1_1 args) (kj1.call f args) else kj1.call f args
def kl1 : Kn := { call := kl1_call, eqs := eqTys, callB := kj1.callB }
attribute [go_sem] kl1_0_0 kl1_0_1 kl1_0_2 kl1_0 kl1_1_0 kl1_1_1 kl1_1 kl1_call kl1
theorem kl1_ok : ∀ f args res, kl1_call f args = some res → TC Try.prog f args [] 1 res [] 1 := by
  intro f args res h
  unfold kl1_call at h
  split at h
  · rename_i e; subst e
    have hh := orO_elim h
    clear h
    rcases hh with h | h
    rotate_left
    · exact kJ1.call _ _ _ h
    unfold kl1_0 at h
    split at h
    · rename_i r0 r1; unfold kl1_0_0 at h
      obtain ⟨a, e0, h⟩ := Option.bind_eq_some_iff.1 h
      unfold kl1_0_1 at h
      obtain ⟨c, e1, h⟩ := Option.bind_eq_some_iff.1 h
      unfold kl1_0_2 at h
      split at h
      · rename_i hc; cases h; rw [unPa_ok e0, unPa_ok e1]; exact eqPa_tc a c hc
      · cases h
    · cases h
  split at h
  · rename_i e; subst e
    have hh := orO_elim h
    clear h
    rcases hh with h | h
    rotate_left
    · exact kJ1.call _ _ _ h
    unfold kl1_1 at h
    split at h
    · rename_i r0 k; unfold kl1_1_0 at h
      obtain ⟨a, e0, h⟩ := Option.bind_eq_some_iff.1 h
      unfold kl1_1_1 at h
      split at h
      · rename_i hc; cases h; rw [unPa_ok e0]; exact heldPa_tc a k hc.1 hc.2.1 hc.2.2.1 hc.2.2.2
      · cases h
    · cases h
  · exact kJ1.call f args res h
theorem kL1 : KnOk Try.prog kl1 := ⟨kl1_ok, eqTysOk, kJ1.callB⟩
def kl2_0_1 (b : Bg) : Option TV := if bgOk b = true then some (.agg b.cv) else none
def kl2_0_0 (r0 : List CV) : Option TV := (unBg r0).bind (kl2_0_1)
def kl2_0 : List TV → Option TV
  | [.agg r0] => kl2_0_0 r0
  | _ => none
def kl2_1_1 (l : List Int) : Option TV := if l.length ≤ 1048576 then some (ro 1 (l.map bTr)) else none
def kl2_1_0 (r0 : List (List Tree)) : Option TV := (unBys r0).bind (kl2_1_1)
def kl2_1 : List TV → Option TV
  | [.c (.t (.sl 1 r0))] => kl2_1_0 r0
  | _ => none
def kl2_2_2 (f : Int) (t : Int) (b : Bg) (l : List Int) : Option TV := if bgOk b = true ∧ l.length ≤ 1048576 then some (ptV b f t l) else none
def kl2_2_1 (f : Int) (t : Int) (r3 : List (List Tree)) (b : Bg) : Option TV := (unBys r3).bind (kl2_2_2 f t b)
def kl2_2_0 (f : Int) (t : Int) (r0 : List CV) (r3 : List (List Tree)) : Option TV := (unBg r0).bind (kl2_2_1 f t r3)
def kl2_2 : List TV → Option TV
  | [.agg r0, .c (.t (.v (.int .i64 f))), .c (.t (.v (.int .i64 t))), .c (.t (.sl 1 r3))] => kl2_2_0 f t r0 r3
  | _ => none
def kl2_call (f : FuncId) (args : List TV) : Option TV := if f = 12 then orO (kl2_0 args) (kl1.call f args) else if f = 13 then orO (kl2_1 args) (kl1.call f args) else if f = 11 then orO (kl2_2 args) (kl1.call f args) else kl1.call f args
def kl2 : Kn := { call := kl2_call, eqs := eqTys, callB := kl1.callB }
attribute [go_sem] kl2_0_0 kl2_0_1 kl2_0 kl2_1_0 kl2_1_1 kl2_1 kl2_2_0 kl2_2_1 kl2_2_2 kl2_2 kl2_call kl2
theorem kl2_ok : ∀ f args res, kl2_call f args = some res → TC Try.prog f args [] 1 res [] 1 := by
  intro f args res h
  unfold kl2_call at h
  split at h
  · rename_i e; subst e
    have hh := orO_elim h
    clear h
    rcases hh with h | h
    rotate_left
    · exact kL1.call _ _ _ h
    unfold kl2_0 at h
    split at h
    · rename_i r0; unfold kl2_0_0 at h
      obtain ⟨b, e0, h⟩ := Option.bind_eq_some_iff.1 h
      unfold kl2_0_1 at h
      split at h
      · rename_i hc; cases h; rw [unBg_ok e0]; exact toBgF_tc b hc
      · cases h
    · cases h
  split at h
  · rename_i e; subst e
    have hh := orO_elim h
    clear h
    rcases hh with h | h
    rotate_left
    · exact kL1.call _ _ _ h
    unfold kl2_1 at h
    split at h
    · rename_i r0; unfold kl2_1_0 at h
      obtain ⟨l, e0, h⟩ := Option.bind_eq_some_iff.1 h
      unfold kl2_1_1 at h
      split at h
      · rename_i hc; cases h; rw [unBys_ok e0]; exact toBysF_tc l hc
      · cases h
    · cases h
  split at h
  · rename_i e; subst e
    have hh := orO_elim h
    clear h
    rcases hh with h | h
    rotate_left
    · exact kL1.call _ _ _ h
    unfold kl2_2 at h
    split at h
    · rename_i r0 f t r3; unfold kl2_2_0 at h
      obtain ⟨b, e0, h⟩ := Option.bind_eq_some_iff.1 h
      unfold kl2_2_1 at h
      obtain ⟨l, e1, h⟩ := Option.bind_eq_some_iff.1 h
      unfold kl2_2_2 at h
      split at h
      · rename_i hc; cases h; rw [unBg_ok e0, unBys_ok e1]; exact ptV_tc b f t l hc.1 hc.2
      · cases h
    · cases h
  · exact kL1.call f args res h
theorem kL2 : KnOk Try.prog kl2 := ⟨kl2_ok, eqTysOk, kL1.callB⟩
def kl3_0_2 (f : Int) (t : Int) (b : Bg) (l : List Int) : CB := if bgOk b = true ∧ l.length ≤ 1048576 then some ((ptR b f t l).2.1, (ptR b f t l).1, (ptR b f t l).2.2) else none
def kl3_0_1 (f : Int) (t : Int) (r0 : List (List Tree)) (b : Bg) : CB := (unBys r0).bind (kl3_0_2 f t b)
def kl3_0_0 (f : Int) (t : Int) (q0 : List CV) (r0 : List (List Tree)) : CB := (unBg q0).bind (kl3_0_1 f t r0)
def kl3_0 : List TV → List (Nat × AObj) → CB
  | [.agg q0, .c (.t (.v (.int .i64 f))), .c (.t (.v (.int .i64 t))), .c (.t (.sl 1 r0))], [] => kl3_0_0 f t q0 r0
  | _, _ => none
def kl3_call (f : FuncId) (args : List TV) (o : List (Nat × AObj)) : CB := if f = 14 then orO (kl3_0 args o) (kl2.callB f args o) else kl2.callB f args o
def kl3 : Kn := { call := kl2.call, eqs := eqTys, callB := kl3_call }
attribute [go_sem] kl3_0_0 kl3_0_1 kl3_0_2 kl3_0 kl3_call kl3
theorem kl3_ok : ∀ f args o res o1 n1, kl3_call f args o = some (res, o1, n1) → TC Try.prog f args o (o.length + 1) res o1 n1 := by
  intro f args o res o1 n1 h
  unfold kl3_call at h
  split at h
  · rename_i e; subst e
    have hh := orO_elim h
    clear h
    rcases hh with h | h
    rotate_left
    · exact kL2.callB _ _ _ _ _ _ h
    unfold kl3_0 at h
    split at h
    · rename_i q0 f t r0; unfold kl3_0_0 at h
      have hb0 := Option.bind_eq_some_iff.1 h
      clear h
      obtain ⟨b, e0, h⟩ := hb0
      unfold kl3_0_1 at h
      have hb1 := Option.bind_eq_some_iff.1 h
      clear h
      obtain ⟨l, e1, h⟩ := hb1
      unfold kl3_0_2 at h
      split at h
      · rename_i hc; cases h; rw [unBg_ok e0, unBys_ok e1]; exact ptR_tc b f t l hc.1 hc.2
      · cases h
    · cases h
  · exact kL2.callB f args o res o1 n1 h
theorem kL3 : KnOk Try.prog kl3 := ⟨kL2.call, eqTysOk, kl3_ok⟩
def kl4_0_0 (a1 : Int) (a2 : Int) (a3 : Int) (b1 : Int) (b2 : Int) (b3 : Int) : CB := if a1 = 1 ∧ a2 = 0 ∧ a3 = 0 ∧ b1 = 1 ∧ b2 = 0 ∧ b3 = 0 then some (bool true, [], 1) else none
def kl4_0 : List TV → List (Nat × AObj) → CB
  | [.agg [.t (.v (.int .i64 a1)), .t (.v (.int .i64 a2)), .t (.v (.int .i64 a3)), .t (.v (.slice none 0 0)), .t (.v (.slice none 0 0))], .agg [.t (.v (.int .i64 b1)), .t (.v (.int .i64 b2)), .t (.v (.int .i64 b3)), .t (.v (.slice none 0 0)), .t (.v (.slice none 0 0))]], [] => kl4_0_0 a1 a2 a3 b1 b2 b3
  | _, _ => none
def kl4_1_0 (a1 : Int) (a2 : Int) (a3 : Int) (k : Int) : CB := if a1 = 1 ∧ a2 = 0 ∧ a3 = 0 then some (int k, [], 1) else none
def kl4_1 : List TV → List (Nat × AObj) → CB
  | [.agg [.t (.v (.int .i64 a1)), .t (.v (.int .i64 a2)), .t (.v (.int .i64 a3)), .t (.v (.slice none 0 0)), .t (.v (.slice none 0 0))], .c (.t (.v (.int .i64 k)))], [] => kl4_1_0 a1 a2 a3 k
  | _, _ => none
def kl4_2_0 (a1 : Int) (a2 : Int) (a3 : Int) (k : Int) : CB := if a1 = 1 ∧ a2 = 0 ∧ a3 = 0 ∧ 0 ≤ k then some (int k, [], 1) else none
def kl4_2 : List TV → List (Nat × AObj) → CB
  | [.agg [.t (.v (.int .i64 a1)), .t (.v (.int .i64 a2)), .t (.v (.int .i64 a3)), .t (.v (.slice none 0 0)), .t (.v (.slice none 0 0))], .c (.t (.v (.int .i64 k)))], [] => kl4_2_0 a1 a2 a3 k
  | _, _ => none
def kl4_3_2 (f : Int) (t : Int) (b : Bg) (l : List Int) : CB := if bgOk b = true ∧ l.length ≤ 1048576 then some ((ptR b f t l).2.1, (ptR b f t l).1, (ptR b f t l).2.2) else none
def kl4_3_1 (f : Int) (t : Int) (r0 : List (List Tree)) (b : Bg) : CB := (unBys r0).bind (kl4_3_2 f t b)
def kl4_3_0 (f : Int) (t : Int) (q0 : List CV) (r0 : List (List Tree)) : CB := (unBg q0).bind (kl4_3_1 f t r0)
def kl4_3 : List TV → List (Nat × AObj) → CB
  | [.agg q0, .c (.t (.v (.int .i64 f))), .c (.t (.v (.int .i64 t))), .c (.t (.sl 1 r0))], [] => kl4_3_0 f t q0 r0
  | _, _ => none
def kl4_4_1 (b : Bg) : CB := if bgOk b = true then some (.agg [ci b.nx, .own 1 0 b.ps.length, .own 2 0 b.ws.length], [(1, .nest 44 4 (b.ps.map Pk.nc)), (2, .arr 3 1 (b.ws.map iTr))], 3) else none
def kl4_4_0 (q0 : List CV) : CB := (unBg q0).bind (kl4_4_1)
def kl4_4 : List TV → List (Nat × AObj) → CB
  | [.agg q0], [] => kl4_4_0 q0
  | _, _ => none
def kl4_5_1 (l : List Int) : CB := if l.length ≤ 1048576 then some (.c (.own 1 0 l.length), [(1, .arr 5 1 (l.map bTr))], 2) else none
def kl4_5_0 (r0 : List (List Tree)) : CB := (unBys r0).bind (kl4_5_1)
def kl4_5 : List TV → List (Nat × AObj) → CB
  | [.c (.t (.sl 1 r0))], [] => kl4_5_0 r0
  | _, _ => none
def kl4_6_1 (n : Nat) (k : Int) (l : List Int) : CB := if n = l.length ∧ 0 ≤ k ∧ k + (l.length : Nat) ≤ 1099511627776 then some (int (k + (l.length : Nat)), [(1, .arr 5 1 ((mkBs l.length k).map bTr))], 2) else none
def kl4_6_0 (n : Nat) (k : Int) (r0 : List (List Tree)) : CB := (unBys r0).bind (kl4_6_1 n k)
def kl4_6 : List TV → List (Nat × AObj) → CB
  | [.c (.own 1 0 n), .c (.t (.v (.int .i64 k)))], [(1, .arr 5 1 r0)] => kl4_6_0 n k r0
  | _, _ => none
def kl4_call (f : FuncId) (args : List TV) (o : List (Nat × AObj)) : CB := if f = 15 then orO (kl4_0 args o) (kl1.callB f args o) else if f = 20 then orO (kl4_1 args o) (kl1.callB f args o) else if f = 21 then orO (kl4_2 args o) (kl1.callB f args o) else if f = 14 then orO (kl4_3 args o) (kl1.callB f args o) else if f = 12 then orO (kl4_4 args o) (kl1.callB f args o) else if f = 13 then orO (kl4_5 args o) (kl1.callB f args o) else if f = 19 then orO (kl4_6 args o) (kl1.callB f args o) else kl1.callB f args o
def kl4 : Kn := { call := kl1.call, eqs := eqTys, callB := kl4_call }
attribute [go_sem] kl4_0_0 kl4_0 kl4_1_0 kl4_1 kl4_2_0 kl4_2 kl4_3_0 kl4_3_1 kl4_3_2 kl4_3 kl4_4_0 kl4_4_1 kl4_4 kl4_5_0 kl4_5_1 kl4_5 kl4_6_0 kl4_6_1 kl4_6 kl4_call kl4
theorem kl4_ok : ∀ f args o res o1 n1, kl4_call f args o = some (res, o1, n1) → TC Try.prog f args o (o.length + 1) res o1 n1 := by
  intro f args o res o1 n1 h
  unfold kl4_call at h
  split at h
  · rename_i e; subst e
    have hh := orO_elim h
    clear h
    rcases hh with h | h
    rotate_left
    · exact kL1.callB _ _ _ _ _ _ h
    unfold kl4_0 at h
    split at h
    · rename_i a1 a2 a3 b1 b2 b3; unfold kl4_0_0 at h
      split at h
      · rename_i hc; cases h; obtain ⟨rfl, rfl, rfl, rfl, rfl, rfl⟩ := hc; exact eqPa0_tc
      · cases h
    · cases h
  split at h
  · rename_i e; subst e
    have hh := orO_elim h
    clear h
    rcases hh with h | h
    rotate_left
    · exact kL1.callB _ _ _ _ _ _ h
    unfold kl4_1 at h
    split at h
    · rename_i a1 a2 a3 k; unfold kl4_1_0 at h
      split at h
      · rename_i hc; cases h; obtain ⟨rfl, rfl, rfl⟩ := hc; exact markPa0_tc k
      · cases h
    · cases h
  split at h
  · rename_i e; subst e
    have hh := orO_elim h
    clear h
    rcases hh with h | h
    rotate_left
    · exact kL1.callB _ _ _ _ _ _ h
    unfold kl4_2 at h
    split at h
    · rename_i a1 a2 a3 k; unfold kl4_2_0 at h
      split at h
      · rename_i hc; cases h; obtain ⟨rfl, rfl, rfl, h0⟩ := hc; exact heldPa0_tc k h0
      · cases h
    · cases h
  split at h
  · rename_i e; subst e
    have hh := orO_elim h
    clear h
    rcases hh with h | h
    rotate_left
    · exact kL1.callB _ _ _ _ _ _ h
    unfold kl4_3 at h
    split at h
    · rename_i q0 f t r0; unfold kl4_3_0 at h
      have hb0 := Option.bind_eq_some_iff.1 h
      clear h
      obtain ⟨b, e0, h⟩ := hb0
      unfold kl4_3_1 at h
      have hb1 := Option.bind_eq_some_iff.1 h
      clear h
      obtain ⟨l, e1, h⟩ := hb1
      unfold kl4_3_2 at h
      split at h
      · rename_i hc; cases h; rw [unBg_ok e0, unBys_ok e1]; exact ptR_tc b f t l hc.1 hc.2
      · cases h
    · cases h
  split at h
  · rename_i e; subst e
    have hh := orO_elim h
    clear h
    rcases hh with h | h
    rotate_left
    · exact kL1.callB _ _ _ _ _ _ h
    unfold kl4_4 at h
    split at h
    · rename_i q0; unfold kl4_4_0 at h
      have hb0 := Option.bind_eq_some_iff.1 h
      clear h
      obtain ⟨b, e0, h⟩ := hb0
      unfold kl4_4_1 at h
      split at h
      · rename_i hc; cases h; rw [unBg_ok e0]; exact toBg_tc b hc
      · cases h
    · cases h
  split at h
  · rename_i e; subst e
    have hh := orO_elim h
    clear h
    rcases hh with h | h
    rotate_left
    · exact kL1.callB _ _ _ _ _ _ h
    unfold kl4_5 at h
    split at h
    · rename_i r0; unfold kl4_5_0 at h
      have hb0 := Option.bind_eq_some_iff.1 h
      clear h
      obtain ⟨l, e0, h⟩ := hb0
      unfold kl4_5_1 at h
      split at h
      · rename_i hc; cases h; rw [unBys_ok e0]; exact toBys_tc l hc
      · cases h
    · cases h
  split at h
  · rename_i e; subst e
    have hh := orO_elim h
    clear h
    rcases hh with h | h
    rotate_left
    · exact kL1.callB _ _ _ _ _ _ h
    unfold kl4_6 at h
    split at h
    · rename_i n k r0; unfold kl4_6_0 at h
      have hb0 := Option.bind_eq_some_iff.1 h
      clear h
      obtain ⟨l, e0, h⟩ := hb0
      unfold kl4_6_1 at h
      split at h
      · rename_i hc; cases h; rw [unBys_ok e0]; obtain ⟨rfl, h1, h2⟩ := hc; exact markBs_tc l k h1 h2
      · cases h
    · cases h
  · exact kL1.callB f args o res o1 n1 h
theorem kL4 : KnOk Try.prog kl4 := ⟨kL1.call, eqTysOk, kl4_ok⟩
def kl5_0_2 (x : Int) (n : Nat) (m : Nat) (k : Int) (l : List Pk) (u : List Int) : CB := if n = l.length ∧ m = u.length ∧ 0 ≤ k ∧ k + (pkSum l : Nat) + (u.length : Nat) ≤ 1099511627776 then some (int (k + (pkSum l : Nat) + (u.length : Nat)), [(1, .nest 44 4 ((mkPks l k).map Pk.nc)), (2, .arr 3 1 ((mkIs u.length (k + (pkSum l : Nat))).map iTr))], 3) else none
def kl5_0_1 (x : Int) (n : Nat) (m : Nat) (k : Int) (r1 : List (List Tree)) (l : List Pk) : CB := (unInts r1).bind (kl5_0_2 x n m k l)
def kl5_0_0 (x : Int) (n : Nat) (m : Nat) (k : Int) (r0 : List (List NC)) (r1 : List (List Tree)) : CB := (unNcs r0).bind (kl5_0_1 x n m k r1)
def kl5_0 : List TV → List (Nat × AObj) → CB
  | [.agg [.t (.v (.int .i64 x)), .own 1 0 n, .own 2 0 m], .c (.t (.v (.int .i64 k)))], [(1, .nest 44 4 r0), (2, .arr 3 1 r1)] => kl5_0_0 x n m k r0 r1
  | _, _ => none
def kl5_1_2 (y : Int) (z : Int) (x : Int) (n : Nat) (m : Nat) (k : Int) (l : List Pk) (u : List Int) : CB := if n = l.length ∧ m = u.length ∧ 0 ≤ k ∧ k + (pkSum l : Nat) + (u.length : Nat) ≤ 1099511627776 then some (int (k + (pkSum l : Nat) + (u.length : Nat)), [(1, .nest 44 4 ((mkPks l k).map Pk.nc)), (2, .arr 3 1 ((mkIs u.length (k + (pkSum l : Nat))).map iTr))], 3) else none
def kl5_1_1 (y : Int) (z : Int) (x : Int) (n : Nat) (m : Nat) (k : Int) (r1 : List (List Tree)) (l : List Pk) : CB := (unInts r1).bind (kl5_1_2 y z x n m k l)
def kl5_1_0 (y : Int) (z : Int) (x : Int) (n : Nat) (m : Nat) (k : Int) (r0 : List (List NC)) (r1 : List (List Tree)) : CB := (unNcs r0).bind (kl5_1_1 y z x n m k r1)
def kl5_1 : List TV → List (Nat × AObj) → CB
  | [.agg [.t (.v (.int .i64 y)), .t (.v (.int .i64 z)), .t (.v (.int .i64 x)), .own 1 0 n, .own 2 0 m], .c (.t (.v (.int .i64 k)))], [(1, .nest 44 4 r0), (2, .arr 3 1 r1)] => kl5_1_0 y z x n m k r0 r1
  | _, _ => none
def kl5_call (f : FuncId) (args : List TV) (o : List (Nat × AObj)) : CB := if f = 18 then orO (kl5_0 args o) (kl4.callB f args o) else if f = 20 then orO (kl5_1 args o) (kl4.callB f args o) else kl4.callB f args o
def kl5 : Kn := { call := kl4.call, eqs := eqTys, callB := kl5_call }
attribute [go_sem] kl5_0_0 kl5_0_1 kl5_0_2 kl5_0 kl5_1_0 kl5_1_1 kl5_1_2 kl5_1 kl5_call kl5
theorem kl5_ok : ∀ f args o res o1 n1, kl5_call f args o = some (res, o1, n1) → TC Try.prog f args o (o.length + 1) res o1 n1 := by
  intro f args o res o1 n1 h
  unfold kl5_call at h
  split at h
  · rename_i e; subst e
    have hh := orO_elim h
    clear h
    rcases hh with h | h
    rotate_left
    · exact kL4.callB _ _ _ _ _ _ h
    unfold kl5_0 at h
    split at h
    · rename_i x n m k r0 r1; unfold kl5_0_0 at h
      have hb0 := Option.bind_eq_some_iff.1 h
      clear h
      obtain ⟨l, e0, h⟩ := hb0
      unfold kl5_0_1 at h
      have hb1 := Option.bind_eq_some_iff.1 h
      clear h
      obtain ⟨u, e1, h⟩ := hb1
      unfold kl5_0_2 at h
      split at h
      · rename_i hc; cases h; rw [unNcs_ok e0, unInts_ok e1]; obtain ⟨rfl, rfl, h1, h2⟩ := hc; exact markBg_tc ⟨x, l, u⟩ k h1 h2
      · cases h
    · cases h
  split at h
  · rename_i e; subst e
    have hh := orO_elim h
    clear h
    rcases hh with h | h
    rotate_left
    · exact kL4.callB _ _ _ _ _ _ h
    unfold kl5_1 at h
    split at h
    · rename_i y z x n m k r0 r1; unfold kl5_1_0 at h
      have hb0 := Option.bind_eq_some_iff.1 h
      clear h
      obtain ⟨l, e0, h⟩ := hb0
      unfold kl5_1_1 at h
      have hb1 := Option.bind_eq_some_iff.1 h
      clear h
      obtain ⟨u, e1, h⟩ := hb1
      unfold kl5_1_2 at h
      split at h
      · rename_i hc; cases h; rw [unNcs_ok e0, unInts_ok e1]; obtain ⟨rfl, rfl, h1, h2⟩ := hc; exact markPa_tc ⟨y, z, ⟨x, l, u⟩⟩ k h1 h2
      · cases h
    · cases h
  · exact kL4.callB f args o res o1 n1 h
theorem kL5 : KnOk Try.prog kl5 := ⟨kL4.call, eqTysOk, kl5_ok⟩
set_option maxHeartbeats 64000000 in
theorem lawPut_tc (b : Bg) (f t : Int) (l : List Int) (h1 : bgBig b = true) (h2 : b.ws.length ≤ maxLen) (h3 : l.length ≤ maxLen) : TC Try.prog 3 [.agg b.cv, int f, int t, ro 1 (l.map bTr)] [] 1 (bool true) [] 1 := by
  refine tc_intro Try.func3 rfl 100 rfl (Nat.le_of_ble_eq_true rfl) (by decide) [8] rfl (by intro id x h; cases h) ?_
  intro w0 E0
  have kOk := kL5
  unfold maxLen at h3
  by_cases hl : l.length ≤ 1048576
  rotate_left
  · obtain ⟨n, ps, u⟩ := b
    simp only [Bg.cv]
    have hp := (show (l.map bTr).length = l.length ∧ ((l.length : Int) > 1048576) = True from ⟨by simp, eq_true (by omega)⟩)
    refine wk1 ?_
    refine am_retP rfl ?_ rfl
    first | rfl | (refine go ?_; rfl)
  have base0 := (show (l.map bTr).length = l.length ∧ ((l.length : Int) > 1048576) = False ∧ (l.length ≤ 1048576) = True from ⟨by simp, eq_false (by omega), eq_true hl⟩)
  by_cases hs : szBgF b 1048576 < 0
  · obtain ⟨n, ps, u⟩ := b
    simp only [Bg.cv]
    have hp := And.intro base0 (And.intro h1 (eq_true hs))
    refine wk1 ?_
    refine am_retP rfl ?_ rfl
    first | rfl | (refine go ?_; rfl)
  obtain ⟨hok, hsm⟩ := szBg_okP h1 h2 hs
  obtain ⟨n, ps, u⟩ := b
  simp only [Bg.cv]
  have hb := hok
  simp only [bgOk, Bool.and_eq_true, decide_eq_true_eq] at hb
  obtain ⟨p1, p2, p3⟩ := of_decide_eq_true hb.1
  have hu := hb.2
  simp only at hsm
  have base := And.intro base0 (show bgBig ⟨n, ps, u⟩ = true ∧ bgOk ⟨n, ps, u⟩ = true ∧ (szBgF ⟨n, ps, u⟩ 1048576 < 0) = False ∧ (∀ x : Int, (x != x) = false) ∧ ((0 : Int) ≤ 1) = True ∧ (1 + (pkSum ps : Int) + (u.length : Int) ≤ 1099511627776) = True ∧ (1 + (pkSum ps : Int) + (u.length : Int) < 0) = False ∧ ((1 : Int) < 0) = False ∧ (0 ≤ 1 + (pkSum ps : Int) + (u.length : Int)) = True ∧ (1 + (pkSum ps : Int) + (u.length : Int) + (l.length : Int) ≤ 1099511627776) = True ∧ (1 + (pkSum ps : Int) + (u.length : Int) + (l.length : Int) < 0) = False ∧ (∀ x : Bg, decide (x = x) = true) ∧ (∀ x : Pa, decide (x = x) = true) ∧ (∀ x : List Int, decide (x = x) = true) from
    ⟨h1, hok, eq_false hs, fun x => by simp, by simp, eq_true (by omega), eq_false (by omega), by simp, eq_true (by omega), eq_true (by omega), eq_false (by omega), fun x => by simp, fun x => by simp, fun x => by simp⟩)
  cases hf : bgF n ps u with
  | false =>
    have hp := And.intro base hf
    refine wk1 ?_
    refine am_rs tabOk kL2 rfl fun K Q1 hK => ?_
    refine go1 ?_
    refine hK _ ?_
    clear hK K Q1
    refine go1 ?_
    refine wk1 ?_
    refine am_retP rfl ?_ rfl
    first | rfl | (refine go ?_; rfl)
  | true =>
    by_cases hc : ptC ⟨n, ps, u⟩ f t l = 0
    · have hps : ps.length ≤ 4096 := by
        simp only [bgF, Bool.and_eq_true, decide_eq_true_eq] at hf
        omega
      have hWs : pkSum (ps ++ [(⟨n, f, t, l⟩ : Pk)]) = pkSum ps + (3 + l.length) := by simp [pkSum]
      have hWm : ∀ p, p ∈ ps ++ [(⟨n, f, t, l⟩ : Pk)] → p.bytes.length ≤ 1048576 := fun p hp => by
        rcases List.mem_append.1 hp with hp | hp
        · exact p2 p hp
        · rw [List.mem_singleton] at hp; subst hp; exact hl
      have hWl : ps.length + 1 = (ps ++ [(⟨n, f, t, l⟩ : Pk)]).length := by simp
      generalize hW : ps ++ [(⟨n, f, t, l⟩ : Pk)] = W at hWs hWm hWl
      have hok2 : bgOk ⟨n + 1, W, u⟩ = true := by
        simp only [bgOk, pksOk, Bool.and_eq_true, decide_eq_true_eq]
        exact ⟨⟨by omega, hWm, by omega⟩, hu⟩
      have hp := And.intro base (And.intro hf (And.intro hc (show ps ++ [(⟨n, f, t, l⟩ : Pk)] = W ∧ ps.length + 1 = W.length ∧ bgOk ⟨n + 1, W, u⟩ = true ∧ (1 + (pkSum W : Int) + (u.length : Int) ≤ 1099511627776) = True ∧ (1 + (pkSum W : Int) + (u.length : Int) < 0) = False from ⟨hW, hWl, hok2, eq_true (by omega), eq_false (by omega)⟩)))
      refine wk1 ?_
      refine am_rs tabOk kL2 rfl fun K Q1 hK => ?_
      refine go1 ?_
      refine hK _ ?_
      clear hK K Q1
      refine go1 ?_
      refine wk1 ?_
      refine am_retP rfl ?_ rfl
      first | rfl | (refine go ?_; rfl)
    · have hc2 : (ptC ⟨n, ps, u⟩ f t l = 0) = False := eq_false hc
      have hp := And.intro base (And.intro hf hc2)
      refine wk1 ?_
      refine am_rs tabOk kL2 rfl fun K Q1 hK => ?_
      refine go1 ?_
      refine hK _ ?_
      clear hK K Q1
      refine go1 ?_
      refine wk1 ?_
      refine am_retP rfl ?_ rfl
      first | rfl | (refine go ?_; rfl)
end Go.Proofs.YthnpbfljoghbmaaA
