/- The row of the law FnExactPlanRecords. -/
import Derived.Test.YtaolgdpkcbfocaaRows
import Derived.Test.YtaolgdpkcbfocaaFPlan5
import Derived.WalkKit
import Derived.ProofKit
import Derived.OpenShut
import Derived.ShutString
import Derived.ChangeOld
import Derived.Below
import Derived.SizedLaws
namespace Go.Proofs.Ytaolgdpkcbfocaa.fnExactPlanRecords
open Go.ChangeShapes Go.WideShapes Go.ChangeAt Go.RowKit Go.Proofs.Ytaolgdpkcbfocaa Go.Proofs.YtaolgdpkcbfocaaA
open Go.ChangeMaps (open_string shut_string)
set_option linter.unusedVariables false
theorem own : ownKnob Try.prog.godebug = none := by kernel_rfl
theorem laidOut : laidOutB Try.prog = true := by kernel_rfl
set_option maxHeartbeats 1000000 in
set_option maxRecDepth 100000 in
theorem lifted (os : Os) (started : os.Started) (H : Type) (enc : TypeId × Value → H) :
    ReturnsInHanded {} Try.checked os 4 .any (Rows.fnExactPlanRecordsSpec.pre6 enc Try.prog Try.f4 Rows.fnExactPlanRecordsRow.domain false) (Rows.fnExactPlanRecordsSpec.post enc Try.prog Try.f4 false true false false) := by
  refine returnsInHanded_of_change_sized (C := Try.checked) own started (by kernel_rfl) Try.func4
    (ChangeSpec.witness6 (enc := enc) (C := Try.checked) false ⟨#[], #[.agg #[.int .i64 0, .int .i64 0, .slice none 0 0], .agg #[.int .i64 0, .int .i64 0, .slice none 0 0]], []⟩ 8 (by kernel_rfl) (by kernel_rfl) (by kernel_rfl) (by kernel_rfl)) ?_
  intro W base args ds gs before hval0 hW hcnd hsz0 _
  have hval : ∀ (j : Nat) t v, Try.f4.params[j]? = some t → args[j]? = some v → Value.okWide Try.prog W .any base t v := hval0
  have hW' := hW
  obtain ⟨p, q, hA0, hV, rfl, hfz, hnd⟩ := hW
  have hA : DataW.TrodAll enc Try.prog W 0 (fun _ => true) true Try.f4.params.toList args.toList ds p := hA0
  rw [Try.params4] at hA hval
  obtain ⟨v0, vs0, d0, ds0, p0, q0, hargs, rfl, rfl, h0, r0⟩ := trodAll_cons hA
  obtain ⟨v1, vs1, d1, ds1, p1, q1, rfl, rfl, rfl, h1, r1⟩ := trodAll_cons r0
  obtain ⟨rfl, rfl, rfl⟩ := trodAll_nil r1
  obtain rfl : args = #[v0, v1] := by cases args; simp_all
  obtain ⟨rfl, rfl⟩ := trodVars_none hV
  have k0 := h0
  have lt0 : ∀ x ∈ p0, x.block < W.heap.size := by obtain ⟨m, hm⟩ := k0; exact DataW.trod_lt m _ _ _ hm
  obtain ⟨fu0, hf0⟩ := h0
  obtain ⟨cs0, rfl, hz0⟩ := okWide_struct Try.underlying47 (hval 0 47 v0 rfl rfl)
  obtain ⟨x0, hK0, a0, w0, e0⟩ := op_Stb _ _ _ _ _ _ _ _ hf0
  have t0 := rt_agg hK0
  rw [w0] at t0
  have k1 := h1
  have lt1 : ∀ x ∈ p1, x.block < W.heap.size := by obtain ⟨m, hm⟩ := k1; exact DataW.trod_lt m _ _ _ hm
  obtain ⟨fu1, hf1⟩ := h1
  obtain ⟨cs1, rfl, hz1⟩ := okWide_struct Try.underlying47 (hval 1 47 v1 rfl rfl)
  obtain ⟨x1, hK1, a1, w1, e1⟩ := op_Stb _ _ _ _ _ _ _ _ hf1
  have t1 := rt_agg hK1
  rw [w1] at t1
  clear hA0 hval0 hsz0
  refine (tc_calls (vs := [_, _]) (lawPlan a0 a1 e0 e1) ⟨t0, t1, trivial⟩ trivial).mono ?_
  rintro e W' ⟨he, bel⟩
  subst he
  exact ⟨_, rfl, _, _, _, [], _, [], hW', trodAll_mk1 (shut_bool Try.underlying4 _), (trodAll_cons_mk (Below.trod laidOut (by kernel_rfl) (of_decide_eq_true (by kernel_rfl)) k0 bel lt0) (trodAll_cons_mk (Below.trod laidOut (by kernel_rfl) (of_decide_eq_true (by kernel_rfl)) k1 bel lt1) trodAll_mk0)), rfl, bel.frame _, fun h => by cases h⟩
theorem j0 : (Rows.fnExactPlanRecordsRow.wf (OpenSpec.ofChange Rows.fnExactPlanRecordsSpec)) = true := by kernel_rfl
theorem j1 : (laidOutB Try.prog) = true := by kernel_rfl
theorem j2 : (mapsRowed Try.prog) = true := by kernel_rfl
theorem j3 : (Try.f4.params.all (Try.prog.readableRec ·)) = true := by kernel_rfl
theorem j4 : (namedTie Try.prog Rows.fnExactPlanRecordsRow.named Rows.fnExactPlanRecordsSpec.vars) = true := by kernel_rfl
theorem j5 : ((Rows.fnExactPlanRecordsRow.stops == [])) = true := by kernel_rfl
theorem j6 : ((Try.prog.stops == [])) = true := by kernel_rfl
theorem j7 : ((Rows.fnExactPlanRecordsRow.knobs == [])) = true := by kernel_rfl
theorem j8 : ((Try.prog.stopKnobs == [])) = true := by kernel_rfl
theorem j9 : ((Rows.fnExactPlanRecordsRow.inPlace == Try.prog.inPlace 4)) = true := by kernel_rfl
theorem j10 : ((Rows.fnExactPlanRecordsRow.unfollowed == Try.prog.unfollowed 4)) = true := by kernel_rfl
theorem j11 : ((Rows.fnExactPlanRecordsRow.recurses == Try.prog.recurses 4)) = true := by kernel_rfl
theorem j12 : ((Rows.fnExactPlanRecordsRow.named == Try.prog.varsNamed 4)) = true := by kernel_rfl
theorem j13 : ((Rows.fnExactPlanRecordsRow.maps == (Try.f4.params.toList ++ Rows.fnExactPlanRecordsSpec.plain.varTypes Try.prog).any (Try.prog.mapsRec ·))) = true := by kernel_rfl
theorem j14 : ((Rows.fnExactPlanRecordsRow.ifaces == (Try.f4.params.toList ++ Rows.fnExactPlanRecordsSpec.plain.varTypes Try.prog).any (Try.prog.ifacesRec ·))) = true := by kernel_rfl
theorem j15 : ((Rows.fnExactPlanRecordsRow.mapsOut == Try.prog.mapsAmong Try.f4.resultTypes.toList)) = true := by kernel_rfl
theorem j16 : ((Rows.fnExactPlanRecordsRow.loops == (Try.f4.params.toList ++ Rows.fnExactPlanRecordsSpec.plain.varTypes Try.prog).any (Try.prog.loopsFrom ·))) = true := by kernel_rfl
theorem j17 : ((Rows.fnExactPlanRecordsRow.wideKeys == (Try.f4.params.toList ++ Rows.fnExactPlanRecordsSpec.plain.varTypes Try.prog ++ Try.f4.resultTypes.toList).any (Try.prog.wideKeysFrom ·))) = true := by kernel_rfl
theorem j18 : (Rows.fnExactPlanRecordsSpec.vars.all (Try.prog.varReadable ·)) = true := by kernel_rfl
theorem j19 : (Try.f4.resultTypes.all (fun t => Try.prog.readableRec t && decide (t < Try.prog.types.size))) = true := by kernel_rfl
theorem j20 : ((Rows.fnExactPlanRecordsRow.ifacesOut == Try.f4.resultTypes.toList.any (Try.prog.ifacesRec ·))) = true := by kernel_rfl
theorem j21 : ((Rows.fnExactPlanRecordsRow.loopsOut == Try.f4.resultTypes.toList.any (Try.prog.loopsFrom ·))) = true := by kernel_rfl
theorem j22 : ((Rows.fnExactPlanRecordsRow.plainKeys == Try.prog.plainKeys)) = true := by kernel_rfl
theorem j23 : (Rows.fnExactPlanRecordsRow.shortTexts.isNone) = true := by kernel_rfl
theorem j24 : (Try.prog.stopsHeard) = true := by kernel_rfl
theorem j25 : (Try.prog.mayEnter) = true := by kernel_rfl
theorem j26 : ((Rows.fnExactPlanRecordsRow.lifted == Try.prog.liftsFinal)) = true := by kernel_rfl
theorem j27 : ((Try.prog.make == some Rows.fnExactPlanRecordsRow.make)) = true := by kernel_rfl
theorem j28 : (kindsB Try.prog Try.f4 Rows.fnExactPlanRecordsRow) = true := by kernel_rfl
theorem j29 : ((Rows.fnExactPlanRecordsRow.pinned == Rows.fnExactPlanRecordsRow.pinnedBy)) = true := by kernel_rfl
theorem j30 : ((Rows.fnExactPlanRecordsRow.veiled == (Try.f4.params.toList ++ Rows.fnExactPlanRecordsSpec.plain.varTypes Try.prog ++ Try.f4.resultTypes.toList).any (Try.prog.veiledRec ·))) = true := by kernel_rfl
theorem j31 : (Rows.fnExactPlanRecordsRow.veiledFits Try.prog Try.f4.params.toList (Try.f4.params.toList ++ Rows.fnExactPlanRecordsSpec.plain.varTypes Try.prog ++ Try.f4.resultTypes.toList)) = true := by kernel_rfl
theorem closed : joinedFacts Try.prog 4 Try.f4 Rows.fnExactPlanRecordsSpec Rows.fnExactPlanRecordsRow = true := closed_of j0 j1 j2 j3 j4 j5 j6 j7 j8 j9 j10 j11 j12 j13 j14 j15 j16 j17 j18 j19 j20 j21 j22 j23 j24 j25 j26 j27 j28 j29 j30 j31
theorem over : Rows.fnExactPlanRecordsRow.holds Try.pinned (OpenSpec.ofChange Rows.fnExactPlanRecordsSpec) :=
  OpenClaim.holds_of_wide 4 Try.f4 rfl rfl rfl rfl rfl rfl rfl ⟨rfl, rfl, rfl, rfl, rfl⟩ rfl rfl rfl rfl rfl (by kernel_rfl) Try.func4 closed
    (of_decide_eq_true (by kernel_rfl)) (by unfold Func.isWrapper; first | (rw [if_pos (by decide +kernel)]; kernel_rfl) | (rw [if_neg (by decide +kernel)]; exact ⟨rfl, rfl⟩))
    (fun os started H enc _ => lifted os started H enc)
theorem proved : Rows.FnExactPlanRecordsSaid := over
#print axioms proved
end Go.Proofs.Ytaolgdpkcbfocaa.fnExactPlanRecords
namespace Go.Proofs.Ytaolgdpkcbfocaa
/-- The row, under a short name, for the claim. -/
theorem fnExactPlanRecords_holds : Rows.FnExactPlanRecordsSaid := fnExactPlanRecords.proved
end Go.Proofs.Ytaolgdpkcbfocaa
