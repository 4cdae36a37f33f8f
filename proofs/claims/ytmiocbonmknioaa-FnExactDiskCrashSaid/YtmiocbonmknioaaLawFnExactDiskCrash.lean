-- WRITTEN by a turned copy of the kit's print program (wip/bin/mkprint.py of this work): Lean checks it.
import Derived.Test.YtmiocbonmknioaaRows
import Derived.Test.YtmiocbonmknioaaPx21
import Derived.Test.YtmiocbonmknioaaPureFnExactDiskCrash
import Derived.Test.YtmiocbonmknioaaOpen
import Derived.WalkKit
import Derived.ProofKit
import Derived.OpenShut
import Derived.ShutString
import Derived.ChangeOld
import Derived.Below
import Derived.SizedLaws
namespace Go.Proofs.Ytmiocbonmknioaa.fnExactDiskCrash
open Go.ChangeShapes Go.WideShapes Go.ChangeAt Go.RowKit Go.Proofs.YtmiocbonmknioaaW.PrintWords Go.Proofs.YtmiocbonmknioaaW.PrintLast Go.Proofs.Ytmiocbonmknioaa.P Go.Proofs.Ytmiocbonmknioaa
open Go.ChangeMaps (open_string shut_string)
set_option linter.unusedVariables false
theorem own : ownKnob Try.prog.godebug = none := by kernel_rfl
theorem laidOut : laidOutB Try.prog = true := by kernel_rfl
theorem op53 : Op.Opens Try.prog k53 W53 53 :=
  Op.opens_iso (fun b => (⟨b.1, b.2.1, b.2.2⟩ : S53)) (fun _ => rfl) (Op.opens_struct Try.underlying53 (by kernel_rfl) (Op.opens_cons rfl (by kernel_rfl) (Op.opens_int Try.underlying3) (Op.opens_cons rfl (by kernel_rfl) (Op.opens_int Try.underlying3) (Op.opens_one rfl (by kernel_rfl) (Op.opens_slice Try.underlying35 (by kernel_rfl) (Op.opens_int Try.underlying5))))))
set_option maxHeartbeats 1000000 in
set_option maxRecDepth 100000 in
theorem lifted (os : Os) (started : os.Started) (H : Type) (enc : TypeId × Value → H) :
    ReturnsInHanded {} Try.checked os 12 .any (Rows.fnExactDiskCrashSpec.pre6 enc Try.prog Try.f12 Rows.fnExactDiskCrashRow.domain false) (Rows.fnExactDiskCrashSpec.post enc Try.prog Try.f12 false true false false) := by
  refine returnsInHanded_of_change_sized (C := Try.checked) own started (by kernel_rfl) Try.func12
    (ChangeSpec.witness6 (enc := enc) (C := Try.checked) false ⟨#[], #[.agg #[.int .i64 0, .int .i64 0, .slice none 0 0], .int .i64 0], []⟩ 8 (by kernel_rfl) (by kernel_rfl) (by kernel_rfl) (by kernel_rfl)) ?_
  intro W base args ds gs before hval0 hW hcnd hsz0 _
  have hval : ∀ (j : Nat) t v, Try.f12.params[j]? = some t → args[j]? = some v → Value.okWide Try.prog W .any base t v := hval0
  have hW' := hW
  obtain ⟨p, q, hA0, hV, rfl, hfz, hnd⟩ := hW
  have hA : DataW.TrodAll enc Try.prog W 0 (fun _ => true) true Try.f12.params.toList args.toList ds p := hA0
  rw [Try.params12] at hA hval
  obtain ⟨v0, vs0, d0, ds0, p0, q0, hargs, rfl, rfl, h0, r0⟩ := trodAll_cons hA
  obtain ⟨v1, vs1, d1, ds1, p1, q1, rfl, rfl, rfl, h1, r1⟩ := trodAll_cons r0
  obtain ⟨rfl, rfl, rfl⟩ := trodAll_nil r1
  obtain rfl : args = #[v0, v1] := by cases args; simp_all
  obtain ⟨rfl, rfl⟩ := trodVars_none hV
  have k0 := h0
  have lt0 : ∀ x ∈ p0, x.block < W.heap.size := by obtain ⟨m, hm⟩ := k0; exact DataW.trod_lt m _ _ _ hm
  obtain ⟨fu0, hf0⟩ := h0
  obtain ⟨cs0, rfl, hz0⟩ := okWide_struct Try.underlying53 (hval 0 53 v0 rfl rfl)
  obtain ⟨x0, hK0, hw0⟩ := op53 _ _ _ _ _ _ _ _ hf0
  obtain ⟨A0_2, c0_2, hcs0, l0_2, g0_2⟩ := k53_open hK0
  obtain rfl := Array.toList_inj.1 (show cs0.toList = (#[.int .i64 x0.f0, .int .i64 x0.f1, .slice A0_2 x0.f2.length c0_2] : Array Value).toList from hcs0)
  obtain ⟨a1, rfl, rfl, rfl, w1⟩ := open_int Try.underlying3 (hval 1 3 v1 rfl rfl) h1
  obtain ⟨k, h⟩ := Pure.FnExactDiskCrash x0.f0 x0.f1 x0.f2 a1 (show W53 _ from hw0).1 (show W53 _ from hw0).2.1 (show W53 _ from hw0).2.2 w1
  clear hA0 hval0 hsz0
  refine (laws_FnExactDiskCrash.calls k x0.f0 x0.f1 _ _ x0.f2 a1 true W g0_2 l0_2 h).mono ?_
  rintro e W' ⟨he, bel0⟩
  have bel : Below W.heap.size W W' := bel0
  subst he
  exact ⟨_, rfl, _, _, _, [], _, [], hW', trodAll_mk1 (shut_bool Try.underlying4 _), (trodAll_cons_mk (Below.trod laidOut (by kernel_rfl) (of_decide_eq_true (by kernel_rfl)) k0 bel lt0) (trodAll_cons_mk (shut_int Try.underlying3 w1) trodAll_mk0)), rfl, bel.frame _, fun h => by cases h⟩
theorem over : Rows.fnExactDiskCrashRow.holds Try.pinned (OpenSpec.ofChange Rows.fnExactDiskCrashSpec) :=
  OpenClaim.holds_of_wide 12 Try.f12 rfl rfl rfl rfl rfl rfl rfl ⟨rfl, rfl, rfl, rfl, rfl⟩ rfl rfl rfl rfl rfl (by kernel_rfl) Try.func12 (by kernel_rfl)
    (of_decide_eq_true (by kernel_rfl)) (by unfold Func.isWrapper; first | (rw [if_pos (by decide +kernel)]; kernel_rfl) | (rw [if_neg (by decide +kernel)]; exact ⟨rfl, rfl⟩))
    (fun os started H enc _ => lifted os started H enc)
theorem proved : Rows.FnExactDiskCrashSaid := over
#print axioms proved
end Go.Proofs.Ytmiocbonmknioaa.fnExactDiskCrash
namespace Go.Proofs.Ytmiocbonmknioaa
/-- The row, under a short name, for the claim. -/
theorem fnExactDiskCrash_holds : Rows.FnExactDiskCrashSaid := fnExactDiskCrash.proved
end Go.Proofs.Ytmiocbonmknioaa
