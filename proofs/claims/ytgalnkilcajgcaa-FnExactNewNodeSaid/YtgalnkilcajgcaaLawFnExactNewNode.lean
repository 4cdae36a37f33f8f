/- The row of the law FnExactNewNode. -/
import Derived.Test.YtgalnkilcajgcaaRows
import Derived.Test.YtgalnkilcajgcaaFNewOp
import Derived.WalkKit
import Derived.ProofKit
import Derived.OpenShut
import Derived.ShutString
import Derived.ChangeOld
import Derived.Below
import Derived.SizedLaws
namespace Go.Proofs.Ytgalnkilcajgcaa.fnExactNewNode
open Go.ChangeShapes Go.WideShapes Go.ChangeAt Go.RowKit Go.Proofs.Ytgalnkilcajgcaa Go.Proofs.YtgalnkilcajgcaaA
open Go.ChangeMaps (open_string shut_string)
set_option linter.unusedVariables false
theorem own : ownKnob Try.prog.godebug = none := by kernel_rfl
theorem laidOut : laidOutB Try.prog = true := by kernel_rfl
set_option maxHeartbeats 1000000 in
set_option maxRecDepth 100000 in
theorem lifted (os : Os) (started : os.Started) (H : Type) (enc : TypeId × Value → H) :
    ReturnsInHanded {} Try.checked os 9 .any (Rows.fnExactNewNodeSpec.pre6 enc Try.prog Try.f9 Rows.fnExactNewNodeRow.domain false) (Rows.fnExactNewNodeSpec.post enc Try.prog Try.f9 false true false false) := by
  refine returnsInHanded_of_change_sized (C := Try.checked) own started (by kernel_rfl) Try.func9
    (ChangeSpec.witness6 (enc := enc) (C := Try.checked) false ⟨#[], #[.int .i64 0, .int .i64 0, .int .i64 0, .int .i64 0, .agg #[.int .i64 0, .int .i64 0, .slice none 0 0], .int .i64 0], []⟩ 8 (by kernel_rfl) (by kernel_rfl) (by kernel_rfl) (by kernel_rfl)) ?_
  intro W base args ds gs before hval0 hW hcnd hsz0 _
  have hval : ∀ (j : Nat) t v, Try.f9.params[j]? = some t → args[j]? = some v → Value.okWide Try.prog W .any base t v := hval0
  have hW' := hW
  obtain ⟨p, q, hA0, hV, rfl, hfz, hnd⟩ := hW
  have hA : DataW.TrodAll enc Try.prog W 0 (fun _ => true) true Try.f9.params.toList args.toList ds p := hA0
  rw [Try.params9] at hA hval
  obtain ⟨v0, vs0, d0, ds0, p0, q0, hargs, rfl, rfl, h0, r0⟩ := trodAll_cons hA
  obtain ⟨v1, vs1, d1, ds1, p1, q1, rfl, rfl, rfl, h1, r1⟩ := trodAll_cons r0
  obtain ⟨v2, vs2, d2, ds2, p2, q2, rfl, rfl, rfl, h2, r2⟩ := trodAll_cons r1
  obtain ⟨v3, vs3, d3, ds3, p3, q3, rfl, rfl, rfl, h3, r3⟩ := trodAll_cons r2
  obtain ⟨v4, vs4, d4, ds4, p4, q4, rfl, rfl, rfl, h4, r4⟩ := trodAll_cons r3
  obtain ⟨v5, vs5, d5, ds5, p5, q5, rfl, rfl, rfl, h5, r5⟩ := trodAll_cons r4
  obtain ⟨rfl, rfl, rfl⟩ := trodAll_nil r5
  obtain rfl : args = #[v0, v1, v2, v3, v4, v5] := by cases args; simp_all
  obtain ⟨rfl, rfl⟩ := trodVars_none hV
  obtain ⟨a0, rfl, rfl, rfl, w0⟩ := open_int Try.underlying3 (hval 0 3 v0 rfl rfl) h0
  obtain ⟨a1, rfl, rfl, rfl, w1⟩ := open_int Try.underlying3 (hval 1 3 v1 rfl rfl) h1
  obtain ⟨a2, rfl, rfl, rfl, w2⟩ := open_int Try.underlying3 (hval 2 3 v2 rfl rfl) h2
  obtain ⟨a3, rfl, rfl, rfl, w3⟩ := open_int Try.underlying3 (hval 3 3 v3 rfl rfl) h3
  have k4 := h4
  have lt4 : ∀ x ∈ p4, x.block < W.heap.size := by obtain ⟨m, hm⟩ := k4; exact DataW.trod_lt m _ _ _ hm
  obtain ⟨fu4, hf4⟩ := h4
  obtain ⟨cs4, rfl, hz4⟩ := okWide_struct Try.underlying84 (hval 4 84 v4 rfl rfl)
  obtain ⟨x4, hK4, a4, w4, e4⟩ := op_Stb _ _ _ _ _ _ _ _ hf4
  have t4 := rt_agg hK4
  rw [w4] at t4
  obtain ⟨a5, rfl, rfl, rfl, w5⟩ := open_int Try.underlying3 (hval 5 3 v5 rfl rfl) h5
  clear hA0 hval0 hsz0
  refine (tc_calls (vs := [.int .i64 a0, .int .i64 a1, .int .i64 a2, .int .i64 a3, _, .int .i64 a5]) (lawNew_tc a0 a1 a2 a3 a4 a5 e4) ⟨rt_val rfl, rt_val rfl, rt_val rfl, rt_val rfl, t4, rt_val rfl, trivial⟩).mono ?_
  rintro e W' ⟨he, bel⟩
  subst he
  exact ⟨_, rfl, _, _, _, [], _, [], hW', trodAll_mk1 (shut_bool Try.underlying4 _), (trodAll_cons_mk (shut_int Try.underlying3 w0) (trodAll_cons_mk (shut_int Try.underlying3 w1) (trodAll_cons_mk (shut_int Try.underlying3 w2) (trodAll_cons_mk (shut_int Try.underlying3 w3) (trodAll_cons_mk (Below.trod laidOut (by kernel_rfl) (of_decide_eq_true (by kernel_rfl)) k4 bel lt4) (trodAll_cons_mk (shut_int Try.underlying3 w5) trodAll_mk0)))))), rfl, bel.frame _, fun h => by cases h⟩
theorem j0 : (Rows.fnExactNewNodeRow.wf (OpenSpec.ofChange Rows.fnExactNewNodeSpec)) = true := by kernel_rfl
theorem j1 : (laidOutB Try.prog) = true := by kernel_rfl
theorem j2 : (mapsRowed Try.prog) = true := by kernel_rfl
theorem j3 : (Try.f9.params.all (Try.prog.readableRec ·)) = true := by kernel_rfl
theorem j4 : (namedTie Try.prog Rows.fnExactNewNodeRow.named Rows.fnExactNewNodeSpec.vars) = true := by kernel_rfl
theorem j5 : ((Rows.fnExactNewNodeRow.stops == [])) = true := by kernel_rfl
theorem j6 : ((Try.prog.stops == [])) = true := by kernel_rfl
theorem j7 : ((Rows.fnExactNewNodeRow.knobs == [])) = true := by kernel_rfl
theorem j8 : ((Try.prog.stopKnobs == [])) = true := by kernel_rfl
theorem j9 : ((Rows.fnExactNewNodeRow.inPlace == Try.prog.inPlace 9)) = true := by kernel_rfl
theorem j10 : ((Rows.fnExactNewNodeRow.unfollowed == Try.prog.unfollowed 9)) = true := by kernel_rfl
theorem j11 : ((Rows.fnExactNewNodeRow.recurses == Try.prog.recurses 9)) = true := by kernel_rfl
theorem j12 : ((Rows.fnExactNewNodeRow.named == Try.prog.varsNamed 9)) = true := by kernel_rfl
theorem j13 : ((Rows.fnExactNewNodeRow.maps == (Try.f9.params.toList ++ Rows.fnExactNewNodeSpec.plain.varTypes Try.prog).any (Try.prog.mapsRec ·))) = true := by kernel_rfl
theorem j14 : ((Rows.fnExactNewNodeRow.ifaces == (Try.f9.params.toList ++ Rows.fnExactNewNodeSpec.plain.varTypes Try.prog).any (Try.prog.ifacesRec ·))) = true := by kernel_rfl
theorem j15 : ((Rows.fnExactNewNodeRow.mapsOut == Try.prog.mapsAmong Try.f9.resultTypes.toList)) = true := by kernel_rfl
theorem j16 : ((Rows.fnExactNewNodeRow.loops == (Try.f9.params.toList ++ Rows.fnExactNewNodeSpec.plain.varTypes Try.prog).any (Try.prog.loopsFrom ·))) = true := by kernel_rfl
theorem j17 : ((Rows.fnExactNewNodeRow.wideKeys == (Try.f9.params.toList ++ Rows.fnExactNewNodeSpec.plain.varTypes Try.prog ++ Try.f9.resultTypes.toList).any (Try.prog.wideKeysFrom ·))) = true := by kernel_rfl
theorem j18 : (Rows.fnExactNewNodeSpec.vars.all (Try.prog.varReadable ·)) = true := by kernel_rfl
theorem j19 : (Try.f9.resultTypes.all (fun t => Try.prog.readableRec t && decide (t < Try.prog.types.size))) = true := by kernel_rfl
theorem j20 : ((Rows.fnExactNewNodeRow.ifacesOut == Try.f9.resultTypes.toList.any (Try.prog.ifacesRec ·))) = true := by kernel_rfl
theorem j21 : ((Rows.fnExactNewNodeRow.loopsOut == Try.f9.resultTypes.toList.any (Try.prog.loopsFrom ·))) = true := by kernel_rfl
theorem j22 : ((Rows.fnExactNewNodeRow.plainKeys == Try.prog.plainKeys)) = true := by kernel_rfl
theorem j23 : (Rows.fnExactNewNodeRow.shortTexts.isNone) = true := by kernel_rfl
theorem j24 : (Try.prog.stopsHeard) = true := by kernel_rfl
theorem j25 : (Try.prog.mayEnter) = true := by kernel_rfl
theorem j26 : ((Rows.fnExactNewNodeRow.lifted == Try.prog.liftsFinal)) = true := by kernel_rfl
theorem j27 : ((Try.prog.make == some Rows.fnExactNewNodeRow.make)) = true := by kernel_rfl
theorem j28 : (kindsB Try.prog Try.f9 Rows.fnExactNewNodeRow) = true := by kernel_rfl
theorem j29 : ((Rows.fnExactNewNodeRow.pinned == Rows.fnExactNewNodeRow.pinnedBy)) = true := by kernel_rfl
theorem j30 : ((Rows.fnExactNewNodeRow.veiled == (Try.f9.params.toList ++ Rows.fnExactNewNodeSpec.plain.varTypes Try.prog ++ Try.f9.resultTypes.toList).any (Try.prog.veiledRec ·))) = true := by kernel_rfl
theorem j31 : (Rows.fnExactNewNodeRow.veiledFits Try.prog Try.f9.params.toList (Try.f9.params.toList ++ Rows.fnExactNewNodeSpec.plain.varTypes Try.prog ++ Try.f9.resultTypes.toList)) = true := by kernel_rfl
theorem closed : joinedFacts Try.prog 9 Try.f9 Rows.fnExactNewNodeSpec Rows.fnExactNewNodeRow = true := closed_of j0 j1 j2 j3 j4 j5 j6 j7 j8 j9 j10 j11 j12 j13 j14 j15 j16 j17 j18 j19 j20 j21 j22 j23 j24 j25 j26 j27 j28 j29 j30 j31
theorem over : Rows.fnExactNewNodeRow.holds Try.pinned (OpenSpec.ofChange Rows.fnExactNewNodeSpec) :=
  OpenClaim.holds_of_wide 9 Try.f9 rfl rfl rfl rfl rfl rfl rfl ⟨rfl, rfl, rfl, rfl, rfl⟩ rfl rfl rfl rfl rfl (by kernel_rfl) Try.func9 closed
    (of_decide_eq_true (by kernel_rfl)) (by unfold Func.isWrapper; first | (rw [if_pos (by decide +kernel)]; kernel_rfl) | (rw [if_neg (by decide +kernel)]; exact ⟨rfl, rfl⟩))
    (fun os started H enc _ => lifted os started H enc)
theorem proved : Rows.FnExactNewNodeSaid := over
#print axioms proved
end Go.Proofs.Ytgalnkilcajgcaa.fnExactNewNode
namespace Go.Proofs.Ytgalnkilcajgcaa
/-- The row, under a short name, for the claim. -/
theorem fnExactNewNode_holds : Rows.FnExactNewNodeSaid := fnExactNewNode.proved
end Go.Proofs.Ytgalnkilcajgcaa
