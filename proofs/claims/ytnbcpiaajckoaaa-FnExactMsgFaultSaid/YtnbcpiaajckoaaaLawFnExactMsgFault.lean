-- WRITTEN by a turned copy of the kit's print program (wip/bin/mkprint.py of this work): Lean checks it.
import Derived.Test.YtnbcpiaajckoaaaRows
import Derived.Test.YtnbcpiaajckoaaaPx13
import Derived.Test.YtnbcpiaajckoaaaPureFnExactMsgFault
import Derived.Test.YtnbcpiaajckoaaaOpen
import Derived.WalkKit
import Derived.ProofKit
import Derived.OpenShut
import Derived.ShutString
import Derived.ChangeOld
import Derived.Below
import Derived.SizedLaws
namespace Go.Proofs.Ytnbcpiaajckoaaa.fnExactMsgFault
open Go.ChangeShapes Go.WideShapes Go.ChangeAt Go.RowKit Go.Proofs.YtnbcpiaajckoaaaW.PrintWords Go.Proofs.YtnbcpiaajckoaaaW.PrintLast Go.Proofs.Ytnbcpiaajckoaaa.P Go.Proofs.Ytnbcpiaajckoaaa
open Go.ChangeMaps (open_string shut_string)
set_option linter.unusedVariables false
theorem own : ownKnob Try.prog.godebug = none := by kernel_rfl
theorem laidOut : laidOutB Try.prog = true := by kernel_rfl
theorem op68 : Op.Opens Try.prog k68 W68 68 :=
  Op.opens_iso (fun b => (⟨b.1, b.2.1, b.2.2.1, b.2.2.2.1, b.2.2.2.2.1, b.2.2.2.2.2⟩ : S68)) (fun _ => rfl) (Op.opens_struct Try.underlying68 (by kernel_rfl) (Op.opens_cons rfl (by kernel_rfl) (Op.opens_int Try.underlying3) (Op.opens_cons rfl (by kernel_rfl) (Op.opens_int Try.underlying3) (Op.opens_cons rfl (by kernel_rfl) (Op.opens_int Try.underlying3) (Op.opens_cons rfl (by kernel_rfl) (Op.opens_string Try.underlying9) (Op.opens_cons rfl (by kernel_rfl) (Op.opens_string Try.underlying9) (Op.opens_one rfl (by kernel_rfl) (Op.opens_string Try.underlying9))))))))
theorem op70 : Op.Opens Try.prog k70 W70 70 :=
  Op.opens_iso (fun b => (⟨b.1, b.2⟩ : S70)) (fun _ => rfl) (Op.opens_struct Try.underlying70 (by kernel_rfl) (Op.opens_cons rfl (by kernel_rfl) (Op.opens_int Try.underlying3) (Op.opens_one rfl (by kernel_rfl) op68)))
theorem op24 : Op.Opens Try.prog k24 W24 24 :=
  Op.opens_iso (fun b => (⟨b.1, b.2.1, b.2.2.1, b.2.2.2.1, b.2.2.2.2.1, b.2.2.2.2.2.1, b.2.2.2.2.2.2.1, b.2.2.2.2.2.2.2.1, b.2.2.2.2.2.2.2.2.1, b.2.2.2.2.2.2.2.2.2⟩ : S24)) (fun _ => rfl) (Op.opens_struct Try.underlying24 (by kernel_rfl) (Op.opens_cons rfl (by kernel_rfl) (Op.opens_int Try.underlying3) (Op.opens_cons rfl (by kernel_rfl) (Op.opens_int Try.underlying3) (Op.opens_cons rfl (by kernel_rfl) (Op.opens_int Try.underlying3) (Op.opens_cons rfl (by kernel_rfl) (Op.opens_int Try.underlying3) (Op.opens_cons rfl (by kernel_rfl) (Op.opens_int Try.underlying3) (Op.opens_cons rfl (by kernel_rfl) (Op.opens_int Try.underlying3) (Op.opens_cons rfl (by kernel_rfl) (Op.opens_int Try.underlying3) (Op.opens_cons rfl (by kernel_rfl) (Op.opens_int Try.underlying3) (Op.opens_cons rfl (by kernel_rfl) (Op.opens_int Try.underlying3) (Op.opens_one rfl (by kernel_rfl) (Op.opens_slice Try.underlying22 (by kernel_rfl) op70))))))))))))
set_option maxHeartbeats 1000000 in
set_option maxRecDepth 100000 in
theorem lifted (os : Os) (started : os.Started) (H : Type) (enc : TypeId × Value → H) :
    ReturnsInHanded {} Try.checked os 3 .any (Rows.fnExactMsgFaultSpec.pre6 enc Try.prog Try.f3 Rows.fnExactMsgFaultRow.domain false) (Rows.fnExactMsgFaultSpec.post enc Try.prog Try.f3 false true false false) := by
  refine returnsInHanded_of_change_sized (C := Try.checked) own started (by kernel_rfl) Try.func3
    (ChangeSpec.witness6 (enc := enc) (C := Try.checked) false ⟨#[], #[.agg #[.int .i64 0, .int .i64 0, .int .i64 0, .int .i64 0, .int .i64 0, .int .i64 0, .int .i64 0, .int .i64 0, .int .i64 0, .slice none 0 0]], []⟩ 8 (by kernel_rfl) (by kernel_rfl) (by kernel_rfl) (by kernel_rfl)) ?_
  intro W base args ds gs before hval0 hW hcnd hsz0 _
  have hval : ∀ (j : Nat) t v, Try.f3.params[j]? = some t → args[j]? = some v → Value.okWide Try.prog W .any base t v := hval0
  have hW' := hW
  obtain ⟨p, q, hA0, hV, rfl, hfz, hnd⟩ := hW
  have hA : DataW.TrodAll enc Try.prog W 0 (fun _ => true) true Try.f3.params.toList args.toList ds p := hA0
  rw [Try.params3] at hA hval
  obtain ⟨v0, vs0, d0, ds0, p0, q0, hargs, rfl, rfl, h0, r0⟩ := trodAll_cons hA
  obtain ⟨rfl, rfl, rfl⟩ := trodAll_nil r0
  obtain rfl : args = #[v0] := by cases args; simp_all
  obtain ⟨rfl, rfl⟩ := trodVars_none hV
  have k0 := h0
  have lt0 : ∀ x ∈ p0, x.block < W.heap.size := by obtain ⟨m, hm⟩ := k0; exact DataW.trod_lt m _ _ _ hm
  obtain ⟨fu0, hf0⟩ := h0
  obtain ⟨cs0, rfl, hz0⟩ := okWide_struct Try.underlying24 (hval 0 24 v0 rfl rfl)
  obtain ⟨x0, hK0, hw0⟩ := op24 _ _ _ _ _ _ _ _ hf0
  obtain ⟨A0_9, c0_9, hcs0, l0_9, g0_9⟩ := k24_open hK0
  obtain rfl := Array.toList_inj.1 (show cs0.toList = (#[.int .i64 x0.f0, .int .i64 x0.f1, .int .i64 x0.f2, .int .i64 x0.f3, .int .i64 x0.f4, .int .i64 x0.f5, .int .i64 x0.f6, .int .i64 x0.f7, .int .i64 x0.f8, .slice A0_9 x0.f9.length c0_9] : Array Value).toList from hcs0)
  obtain ⟨k, h⟩ := Pure.FnExactMsgFault x0.f0 x0.f1 x0.f2 x0.f3 x0.f4 x0.f5 x0.f6 x0.f7 x0.f8 x0.f9 (show W24 _ from hw0).1 (show W24 _ from hw0).2.1 (show W24 _ from hw0).2.2.1 (show W24 _ from hw0).2.2.2.1 (show W24 _ from hw0).2.2.2.2.1 (show W24 _ from hw0).2.2.2.2.2.1 (show W24 _ from hw0).2.2.2.2.2.2.1 (show W24 _ from hw0).2.2.2.2.2.2.2.1 (show W24 _ from hw0).2.2.2.2.2.2.2.2.1 (show W24 _ from hw0).2.2.2.2.2.2.2.2.2
  clear hA0 hval0 hsz0
  refine (laws_FnExactMsgFault.calls k x0.f0 x0.f1 x0.f2 x0.f3 x0.f4 x0.f5 x0.f6 x0.f7 x0.f8 _ _ x0.f9 true W g0_9 l0_9 h).mono ?_
  rintro e W' ⟨he, bel0⟩
  have bel : Below W.heap.size W W' := bel0
  subst he
  exact ⟨_, rfl, _, _, _, [], _, [], hW', trodAll_mk1 (shut_bool Try.underlying4 _), (trodAll_cons_mk (Below.trod laidOut (by kernel_rfl) (of_decide_eq_true (by kernel_rfl)) k0 bel lt0) trodAll_mk0), rfl, bel.frame _, fun h => by cases h⟩
theorem over : Rows.fnExactMsgFaultRow.holds Try.pinned (OpenSpec.ofChange Rows.fnExactMsgFaultSpec) :=
  OpenClaim.holds_of_wide 3 Try.f3 rfl rfl rfl rfl rfl rfl rfl ⟨rfl, rfl, rfl, rfl, rfl⟩ rfl rfl rfl rfl rfl (by kernel_rfl) Try.func3 (by kernel_rfl)
    (of_decide_eq_true (by kernel_rfl)) (by unfold Func.isWrapper; first | (rw [if_pos (by decide +kernel)]; kernel_rfl) | (rw [if_neg (by decide +kernel)]; exact ⟨rfl, rfl⟩))
    (fun os started H enc _ => lifted os started H enc)
theorem proved : Rows.FnExactMsgFaultSaid := over
#print axioms proved
end Go.Proofs.Ytnbcpiaajckoaaa.fnExactMsgFault
namespace Go.Proofs.Ytnbcpiaajckoaaa
/-- The row, under a short name, for the claim. -/
theorem fnExactMsgFault_holds : Rows.FnExactMsgFaultSaid := fnExactMsgFault.proved
end Go.Proofs.Ytnbcpiaajckoaaa
