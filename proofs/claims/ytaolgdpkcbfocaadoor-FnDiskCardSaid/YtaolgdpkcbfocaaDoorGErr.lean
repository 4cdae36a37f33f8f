/- errors.Is at the one error of this program that is laid: nil is not it, it is itself. -/
import Derived.Test.YtaolgdpkcbfocaaDoorAm14
import Derived.WalkKit
import Derived.LaidEql
import Derived.Stop.Asserts
import Derived.RowKitTokens
namespace Go.Proofs.YtaolgdpkcbfocaaDoorA
open Go.Proofs Go.RowKit Go.Extern.Stop Go.Stop Go.Extern
set_option autoImplicit false
set_option linter.unusedVariables false
theorem isTypeOf (v : Value) (w : World) : (Extern.ReflectliteType.typeOf #[.iface 186 v]).run Tryd.prog w = .ok (.iface 169 (.agg #[.pointer (some ⟨2, 186, none⟩)])) w := by kernel_rfl
def cmpX : Array Value → Sem Value := Extern.ReflectliteType.method fun t => do Extern.Rtype.noPackHeld "Comparable" t; pure (.bool (← typeInfo t).comparable)
theorem isComparable (w : World) : (cmpX #[.agg #[.pointer (some ⟨2, 186, none⟩)]]).run Tryd.prog w = .ok (.bool true) w := by kernel_rfl
theorem isComp : (Tryd.prog.info? 186).map (·.comparable) = some true := by kernel_rfl
theorem isSize : (Tryd.prog.info? 216).map (·.size) = some 1 := by kernel_rfl
set_option maxRecDepth 10000 in
/-- errors.Is(x, x), x a pointer to an errors.errorString. -/
theorem is_same (a : Addr) (w : World) :
    Calls Tryd.prog 73 #[.iface 186 (.pointer (some a)), .iface 186 (.pointer (some a))] w fun e w' => e = .returned (.bool true) ∧ w' = w := by
  obtain ⟨i, hi, hcmp⟩ := Option.map_eq_some_iff.1 isComp
  obtain ⟨j, hj, hjs⟩ := Option.map_eq_some_iff.1 isSize
  have h8 := @run_callFunc_extern Tryd.prog 94 _ Extern.ReflectliteType.typeOf Tryd.func94 (by kernel_rfl) (by kernel_rfl) (by kernel_rfl) (by kernel_rfl)
  have h32 := @run_callFunc_extern Tryd.prog 146 _ cmpX Tryd.func146 (by kernel_rfl) (by kernel_rfl) (by kernel_rfl) (by kernel_rfl)
  have tT := isTypeOf
  have cT := isComparable
  have mR : ∀ v w, (Go.method 330 169 v "Comparable").run Tryd.prog w = .ok (146, v) w := fun v w => by kernel_rfl
  have heq := run_eql_iface_ptr_same (P := Tryd.prog) w a Tryd.underlying119 Tryd.underlying186 hi hcmp hj
  go_enter Tryd.func73, Tryd.ntmps73
  go_wp2
  refine wp_loop_rounds 1 ?_
  rw [rounds_succ]
  go_wp2
  go_ret
  exact ⟨rfl, rfl⟩
/-- errors.Is(nil, x). -/
theorem is_nil (b : Addr) (w : World) :
    Calls Tryd.prog 73 #[.nilIface, .iface 186 (.pointer (some b))] w fun e w' => e = .returned (.bool false) ∧ w' = w := by
  have hn := run_eql_iface_nil_left (P := Tryd.prog) w 186 (.pointer (some b)) Tryd.underlying119
  go_enter Tryd.func73, Tryd.ntmps73
  go_wp2
  go_ret
  exact ⟨rfl, rfl⟩
end Go.Proofs.YtaolgdpkcbfocaaDoorA
