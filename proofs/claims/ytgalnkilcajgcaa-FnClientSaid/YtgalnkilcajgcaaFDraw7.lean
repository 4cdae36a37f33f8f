/- Draws: calls of a client. -/
import Derived.Test.YtgalnkilcajgcaaFDraw6
namespace Go.Proofs.YtgalnkilcajgcaaA
open Go.Proofs
set_option autoImplicit false
set_option linter.unusedVariables false
set_option linter.unusedSimpArgs false
set_option maxRecDepth 4000
/-- Where a client may be drawn. -/
def okL (bs : List Int) (a : Int) : Prop := okS bs ∧ 0 ≤ a ∧ a ≤ 1099511610000
instance (bs : List Int) (a : Int) : Decidable (okL bs a) := inferInstanceAs (Decidable (_ ∧ _ ∧ _))
def kd7_0_1 (a : Int) (bs : List Int) : CB := if okL bs a then some (.agg (cliF bs a).cv, [(1, .cells [.t (.sl 1 (bs.map bTr)), ci (cliA bs a)])], 2) else none
def kd7_0_0 (a : Int) (r0 : List (List Tree)) : CB := (unBys r0).bind (kd7_0_1 a)
def kd7_0 : List TV → List (Nat × AObj) → CB
  | [.c (.ptr 1 0)], [(1, .cells [.t (.sl 1 r0), .t (.v (.int .i64 a))])] => kd7_0_0 a r0
  | _, _ => none
def kd7_call (f : FuncId) (args : List TV) (o : List (Nat × AObj)) : CB := if f = 85 then orO (kd7_0 args o) (kd6.callB f args o) else kd6.callB f args o
def kd7 : Kn := { call := kd6.call, eqs := eqTys, callB := kd7_call }
attribute [go_sem] kd7_0_0 kd7_0_1 kd7_0 kd7_call kd7
theorem kd7_ok : ∀ f args o res o1 n1, kd7_call f args o = some (res, o1, n1) → TC Try.prog f args o (o.length + 1) res o1 n1 := by
  intro f args o res o1 n1 h
  unfold kd7_call at h
  split at h
  · rename_i e; subst e
    have hh := orO_elim h
    clear h
    rcases hh with h | h
    rotate_left
    · exact kD6.callB _ _ _ _ _ _ h
    unfold kd7_0 at h
    split at h
    · rename_i r0 a; unfold kd7_0_0 at h
      have hb0 := Option.bind_eq_some_iff.1 h
      clear h
      obtain ⟨bs, e0, h⟩ := hb0
      unfold kd7_0_1 at h
      split at h
      · rename_i hc; cases h; rw [unBys_ok e0]; exact cliD_tc bs a hc.1 hc.2.1 hc.2.2
      · cases h
    · cases h
  · exact kD6.callB f args o res o1 n1 h
theorem kD7 : KnOk Try.prog kd7 := ⟨kD6.call, eqTysOk, kd7_ok⟩
def evR (bs : List Int) (a : Int) : Int := repN bs (cmdN bs (a + 1))
def evSq (bs : List Int) (a : Int) (c : Cl) : Int :=
  if pkF bs (evR bs a) 4 = 0 then (if (1 : Int) > IntKind.i64.wrap (IntKind.i64.wrap (c.sq - 1) + IntKind.i64.wrap (2 * pkF bs (evR bs a + 1) 2)) then 1 else IntKind.i64.wrap (IntKind.i64.wrap (c.sq - 1) + IntKind.i64.wrap (2 * pkF bs (evR bs a + 1) 2)))
  else if (1 : Int) > c.sq then 1 else c.sq
def evF (bs : List Int) (a : Int) (c : Cl) : Ev := ⟨IntKind.i64.wrap (1 + pkF bs a 3), cmdF bs (a + 1), { repF bs (cmdN bs (a + 1)) with cl := c.id, sq := evSq bs a c }⟩
def evA (bs : List Int) (a : Int) : Int := if pkF bs (evR bs a) 4 = 0 then evR bs a + 1 + 1 else evR bs a + 1
theorem evA_le (bs : List Int) (a : Int) : a + 3 ≤ evA bs a ∧ evA bs a ≤ a + 40 := by
  have h1 := cmdN_le bs (a + 1)
  have h2 := repN_le bs (cmdN bs (a + 1))
  unfold evA evR
  split <;> omega
def evGo (bs : List Int) : Nat → Int → Cl → List Ev
  | 0, _, _ => []
  | d + 1, a, c => evF bs a c :: evGo bs d (evA bs a) (stepF c (evF bs a c)).c
def Ev.tr (e : Ev) : List Tree := [.v (.int .i64 e.k), .v (.int .i64 e.m.cl), .v (.int .i64 e.m.sq), .v (.int .i64 e.m.op), .v (.string e.m.k), .v (.string e.m.v), .v (.string e.m.o), .v (.int .i64 e.r.cl), .v (.int .i64 e.r.sq), .v (.int .i64 e.r.kd), .v (.int .i64 e.r.rs), .v (.string e.r.v), .v (.int .i64 e.r.hint)]
end Go.Proofs.YtgalnkilcajgcaaA
