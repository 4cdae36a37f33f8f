/- Commands' faults: what is known of the two functions (in seats without clients). -/
import Derived.Test.YthnpbfljoghbmaaFCmd
import Derived.Test.YthnpbfljoghbmaaFOpen
namespace Go.Proofs.YthnpbfljoghbmaaA
open Go.Proofs
set_option autoImplicit false
set_option linter.unusedVariables false
set_option linter.unusedSimpArgs false
set_option maxRecDepth 4000
def unCm : List CV → Option Cm
  | [.t (.v (.int .i64 a)), .t (.v (.int .i64 b)), .t (.v (.int .i64 o)), .t (.v (.string x)), .t (.v (.string y)), .t (.v (.string z))] => some ⟨a, b, o, x, y, z⟩
  | _ => none
theorem unCm_ok {xs : List CV} {c : Cm} (h : unCm xs = some c) : xs = c.cv := by
  unfold unCm at h
  split at h
  · cases h; rfl
  · cases h
attribute [go_sem] unCm
def kn2_0_1 (c : Cm) : Option TV := some (int (cmF c))
def kn2_0_0 (r0 : List CV) : Option TV := (unCm r0).bind (kn2_0_1)
def kn2_0 : List TV → Option TV
  | [.agg r0] => kn2_0_0 r0
  | _ => none
def kn2_1_1 (c : Cm) : Option TV := some (int (cmF c))
def kn2_1_0 (r0 : List CV) : Option TV := (unCm r0).bind (kn2_1_1)
def kn2_1 : List TV → Option TV
  | [.agg r0] => kn2_1_0 r0
  | _ => none
def kn2_call (f : FuncId) (args : List TV) : Option TV := if f = 126 then orO (kn2_0 args) (kn1.call f args) else if f = 131 then orO (kn2_1 args) (kn1.call f args) else kn1.call f args
def kn2 : Kn := { call := kn2_call, eqs := eqTys, callB := kn1.callB }
attribute [go_sem] kn2_0_0 kn2_0_1 kn2_0 kn2_1_0 kn2_1_1 kn2_1 kn2_call kn2
theorem kn2_ok : ∀ f args res, kn2_call f args = some res → TC Try.prog f args [] 1 res [] 1 := by
  intro f args res h
  unfold kn2_call at h
  split at h
  · rename_i e; subst e
    have hh := orO_elim h
    clear h
    rcases hh with h | h
    rotate_left
    · exact k1.call _ _ _ h
    unfold kn2_0 at h
    split at h
    · rename_i r0; unfold kn2_0_0 at h
      obtain ⟨c, e0, h⟩ := Option.bind_eq_some_iff.1 h
      unfold kn2_0_1 at h
      cases h; rw [unCm_ok e0]; exact cmdS_tc c
    · cases h
  split at h
  · rename_i e; subst e
    have hh := orO_elim h
    clear h
    rcases hh with h | h
    rotate_left
    · exact k1.call _ _ _ h
    unfold kn2_1 at h
    split at h
    · rename_i r0; unfold kn2_1_0 at h
      obtain ⟨c, e0, h⟩ := Option.bind_eq_some_iff.1 h
      unfold kn2_1_1 at h
      cases h; rw [unCm_ok e0]; exact cmdI_tc c
    · cases h
  · exact k1.call f args res h
theorem k2 : KnOk Try.prog kn2 := ⟨kn2_ok, eqTysOk, k1.callB⟩
end Go.Proofs.YthnpbfljoghbmaaA
