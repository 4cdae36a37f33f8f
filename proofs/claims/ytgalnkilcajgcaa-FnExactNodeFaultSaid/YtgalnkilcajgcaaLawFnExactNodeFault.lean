/- The row of the law FnExactNodeFault. -/
import Derived.Test.YtgalnkilcajgcaaRows
import Derived.Test.YtgalnkilcajgcaaFNode8
import Derived.WalkKit
import Derived.ProofKit
import Derived.OpenShut
import Derived.ShutString
import Derived.ChangeOld
import Derived.Below
import Derived.SizedLaws
namespace Go.Proofs.Ytgalnkilcajgcaa.fnExactNodeFault
open Go.ChangeShapes Go.WideShapes Go.ChangeAt Go.RowKit Go.Proofs.Ytgalnkilcajgcaa Go.Proofs.YtgalnkilcajgcaaA
open Go.ChangeMaps (open_string shut_string)
set_option linter.unusedVariables false
theorem own : ownKnob Try.prog.godebug = none := by kernel_rfl
theorem laidOut : laidOutB Try.prog = true := by kernel_rfl
set_option maxHeartbeats 1000000 in
set_option maxRecDepth 100000 in
theorem lifted (os : Os) (started : os.Started) (H : Type) (enc : TypeId × Value → H) :
    ReturnsInHanded {} Try.checked os 10 .any (Rows.fnExactNodeFaultSpec.pre6 enc Try.prog Try.f10 Rows.fnExactNodeFaultRow.domain false) (Rows.fnExactNodeFaultSpec.post enc Try.prog Try.f10 false true false false) := by
  refine returnsInHanded_of_change_sized (C := Try.checked) own started (by kernel_rfl) Try.func10
    (ChangeSpec.witness6 (enc := enc) (C := Try.checked) false ⟨#[], #[.agg #[.int .i64 0, .int .i64 0, .int .i64 0, .int .i64 0, .int .i64 0, .int .i64 0, .int .i64 0, .int .i64 0, .int .i64 0, .int .i64 0, .int .i64 0, .int .i64 0, .slice none 0 0, .slice none 0 0, .slice none 0 0, .slice none 0 0, .slice none 0 0, .slice none 0 0]], []⟩ 8 (by kernel_rfl) (by kernel_rfl) (by kernel_rfl) (by kernel_rfl)) ?_
  intro W base args ds gs before hval0 hW hcnd hsz0 _
  have hval : ∀ (j : Nat) t v, Try.f10.params[j]? = some t → args[j]? = some v → Value.okWide Try.prog W .any base t v := hval0
  have hW' := hW
  obtain ⟨p, q, hA0, hV, rfl, hfz, hnd⟩ := hW
  have hA : DataW.TrodAll enc Try.prog W 0 (fun _ => true) true Try.f10.params.toList args.toList ds p := hA0
  rw [Try.params10] at hA hval
  obtain ⟨v0, vs0, d0, ds0, p0, q0, hargs, rfl, rfl, h0, r0⟩ := trodAll_cons hA
  obtain ⟨rfl, rfl, rfl⟩ := trodAll_nil r0
  obtain rfl : args = #[v0] := by cases args; simp_all
  obtain ⟨rfl, rfl⟩ := trodVars_none hV
  have k0 := h0
  have lt0 : ∀ x ∈ p0, x.block < W.heap.size := by obtain ⟨m, hm⟩ := k0; exact DataW.trod_lt m _ _ _ hm
  obtain ⟨fu0, hf0⟩ := h0
  obtain ⟨cs0, rfl, hz0⟩ := okWide_struct Try.underlying99 (hval 0 99 v0 rfl rfl)
  obtain ⟨x0, hK0, a0, w0, e0⟩ := op_Nd _ _ _ _ _ _ _ _ hf0
  have t0 := rt_agg hK0
  rw [w0] at t0
  clear hA0 hval0 hsz0
  refine (tc_calls (vs := [_]) (lawNf a0 e0) ⟨t0, trivial⟩).mono ?_
  rintro e W' ⟨he, bel⟩
  subst he
  exact ⟨_, rfl, _, _, _, [], _, [], hW', trodAll_mk1 (shut_bool Try.underlying4 _), (trodAll_cons_mk (Below.trod laidOut (by kernel_rfl) (of_decide_eq_true (by kernel_rfl)) k0 bel lt0) trodAll_mk0), rfl, bel.frame _, fun h => by cases h⟩
theorem j0 : (Rows.fnExactNodeFaultRow.wf (OpenSpec.ofChange Rows.fnExactNodeFaultSpec)) = true := by kernel_rfl
theorem j1 : (laidOutB Try.prog) = true := by kernel_rfl
theorem j2 : (mapsRowed Try.prog) = true := by kernel_rfl
theorem j3 : (Try.f10.params.all (Try.prog.readableRec ·)) = true := by kernel_rfl
theorem j4 : (namedTie Try.prog Rows.fnExactNodeFaultRow.named Rows.fnExactNodeFaultSpec.vars) = true := by kernel_rfl
theorem j5 : ((Rows.fnExactNodeFaultRow.stops == [])) = true := by kernel_rfl
theorem j6 : ((Try.prog.stops == [])) = true := by kernel_rfl
theorem j7 : ((Rows.fnExactNodeFaultRow.knobs == [])) = true := by kernel_rfl
theorem j8 : ((Try.prog.stopKnobs == [])) = true := by kernel_rfl
theorem j9 : ((Rows.fnExactNodeFaultRow.inPlace == Try.prog.inPlace 10)) = true := by kernel_rfl
theorem j10 : ((Rows.fnExactNodeFaultRow.unfollowed == Try.prog.unfollowed 10)) = true := by kernel_rfl
theorem j11 : ((Rows.fnExactNodeFaultRow.recurses == Try.prog.recurses 10)) = true := by kernel_rfl
theorem j12 : ((Rows.fnExactNodeFaultRow.named == Try.prog.varsNamed 10)) = true := by kernel_rfl
theorem j13 : ((Rows.fnExactNodeFaultRow.maps == (Try.f10.params.toList ++ Rows.fnExactNodeFaultSpec.plain.varTypes Try.prog).any (Try.prog.mapsRec ·))) = true := by kernel_rfl
theorem j14 : ((Rows.fnExactNodeFaultRow.ifaces == (Try.f10.params.toList ++ Rows.fnExactNodeFaultSpec.plain.varTypes Try.prog).any (Try.prog.ifacesRec ·))) = true := by kernel_rfl
theorem j15 : ((Rows.fnExactNodeFaultRow.mapsOut == Try.prog.mapsAmong Try.f10.resultTypes.toList)) = true := by kernel_rfl
theorem j16 : ((Rows.fnExactNodeFaultRow.loops == (Try.f10.params.toList ++ Rows.fnExactNodeFaultSpec.plain.varTypes Try.prog).any (Try.prog.loopsFrom ·))) = true := by kernel_rfl
theorem j17 : ((Rows.fnExactNodeFaultRow.wideKeys == (Try.f10.params.toList ++ Rows.fnExactNodeFaultSpec.plain.varTypes Try.prog ++ Try.f10.resultTypes.toList).any (Try.prog.wideKeysFrom ·))) = true := by kernel_rfl
theorem j18 : (Rows.fnExactNodeFaultSpec.vars.all (Try.prog.varReadable ·)) = true := by kernel_rfl
theorem j19 : (Try.f10.resultTypes.all (fun t => Try.prog.readableRec t && decide (t < Try.prog.types.size))) = true := by kernel_rfl
theorem j20 : ((Rows.fnExactNodeFaultRow.ifacesOut == Try.f10.resultTypes.toList.any (Try.prog.ifacesRec ·))) = true := by kernel_rfl
theorem j21 : ((Rows.fnExactNodeFaultRow.loopsOut == Try.f10.resultTypes.toList.any (Try.prog.loopsFrom ·))) = true := by kernel_rfl
theorem j22 : ((Rows.fnExactNodeFaultRow.plainKeys == Try.prog.plainKeys)) = true := by kernel_rfl
theorem j23 : (Rows.fnExactNodeFaultRow.shortTexts.isNone) = true := by kernel_rfl
theorem j24 : (Try.prog.stopsHeard) = true := by kernel_rfl
theorem j25 : (Try.prog.mayEnter) = true := by kernel_rfl
theorem j26 : ((Rows.fnExactNodeFaultRow.lifted == Try.prog.liftsFinal)) = true := by kernel_rfl
theorem j27 : ((Try.prog.make == some Rows.fnExactNodeFaultRow.make)) = true := by kernel_rfl
theorem j28 : (kindsB Try.prog Try.f10 Rows.fnExactNodeFaultRow) = true := by kernel_rfl
theorem j29 : ((Rows.fnExactNodeFaultRow.pinned == Rows.fnExactNodeFaultRow.pinnedBy)) = true := by kernel_rfl
theorem j30 : ((Rows.fnExactNodeFaultRow.veiled == (Try.f10.params.toList ++ Rows.fnExactNodeFaultSpec.plain.varTypes Try.prog ++ Try.f10.resultTypes.toList).any (Try.prog.veiledRec ·))) = true := by kernel_rfl
theorem j31 : (Rows.fnExactNodeFaultRow.veiledFits Try.prog Try.f10.params.toList (Try.f10.params.toList ++ Rows.fnExactNodeFaultSpec.plain.varTypes Try.prog ++ Try.f10.resultTypes.toList)) = true := by kernel_rfl
theorem closed : joinedFacts Try.prog 10 Try.f10 Rows.fnExactNodeFaultSpec Rows.fnExactNodeFaultRow = true := closed_of j0 j1 j2 j3 j4 j5 j6 j7 j8 j9 j10 j11 j12 j13 j14 j15 j16 j17 j18 j19 j20 j21 j22 j23 j24 j25 j26 j27 j28 j29 j30 j31
theorem over : Rows.fnExactNodeFaultRow.holds Try.pinned (OpenSpec.ofChange Rows.fnExactNodeFaultSpec) :=
  OpenClaim.holds_of_wide 10 Try.f10 rfl rfl rfl rfl rfl rfl rfl ⟨rfl, rfl, rfl, rfl, rfl⟩ rfl rfl rfl rfl rfl (by kernel_rfl) Try.func10 closed
    (of_decide_eq_true (by kernel_rfl)) (by unfold Func.isWrapper; first | (rw [if_pos (by decide +kernel)]; kernel_rfl) | (rw [if_neg (by decide +kernel)]; exact ⟨rfl, rfl⟩))
    (fun os started H enc _ => lifted os started H enc)
theorem proved : Rows.FnExactNodeFaultSaid := over
#print axioms proved
end Go.Proofs.Ytgalnkilcajgcaa.fnExactNodeFault
namespace Go.Proofs.Ytgalnkilcajgcaa
/-- The row, under a short name, for the claim. -/
theorem fnExactNodeFault_holds : Rows.FnExactNodeFaultSaid := fnExactNodeFault.proved
end Go.Proofs.Ytgalnkilcajgcaa
