/- The row of the law FnExactBagPut. -/
import Derived.Test.YthnpbfljoghbmaaRows
import Derived.Test.YthnpbfljoghbmaaEOp
import Derived.WalkKit
import Derived.ProofKit
import Derived.OpenShut
import Derived.ShutString
import Derived.ChangeOld
import Derived.Below
import Derived.SizedLaws
namespace Go.Proofs.Ythnpbfljoghbmaa.fnExactBagPut
open Go.ChangeShapes Go.WideShapes Go.ChangeAt Go.RowKit Go.Proofs.Ythnpbfljoghbmaa Go.Proofs.YthnpbfljoghbmaaA
open Go.ChangeMaps (open_string shut_string)
set_option linter.unusedVariables false
theorem own : ownKnob Try.prog.godebug = none := by kernel_rfl
theorem laidOut : laidOutB Try.prog = true := by kernel_rfl
set_option maxHeartbeats 1000000 in
set_option maxRecDepth 100000 in
theorem lifted (os : Os) (started : os.Started) (H : Type) (enc : TypeId × Value → H) :
    ReturnsInHanded {} Try.checked os 3 .any (Rows.fnExactBagPutSpec.pre6 enc Try.prog Try.f3 Rows.fnExactBagPutRow.domain false) (Rows.fnExactBagPutSpec.post enc Try.prog Try.f3 false true false false) := by
  refine returnsInHanded_of_change_sized (C := Try.checked) own started (by kernel_rfl) Try.func3
    (ChangeSpec.witness6 (enc := enc) (C := Try.checked) false ⟨#[], #[.agg #[.int .i64 0, .slice none 0 0, .slice none 0 0], .int .i64 0, .int .i64 0, .slice none 0 0], []⟩ 8 (by kernel_rfl) (by kernel_rfl) (by kernel_rfl) (by kernel_rfl)) ?_
  intro W base args ds gs before hval0 hW hcnd hsz0 _
  have hval : ∀ (j : Nat) t v, Try.f3.params[j]? = some t → args[j]? = some v → Value.okWide Try.prog W .any base t v := hval0
  have hW' := hW
  obtain ⟨p, q, hA0, hV, rfl, hfz, hnd⟩ := hW
  have hA : DataW.TrodAll enc Try.prog W 0 (fun _ => true) true Try.f3.params.toList args.toList ds p := hA0
  rw [Try.params3] at hA hval
  obtain ⟨v0, vs0, d0, ds0, p0, q0, hargs, rfl, rfl, h0, r0⟩ := trodAll_cons hA
  obtain ⟨v1, vs1, d1, ds1, p1, q1, rfl, rfl, rfl, h1, r1⟩ := trodAll_cons r0
  obtain ⟨v2, vs2, d2, ds2, p2, q2, rfl, rfl, rfl, h2, r2⟩ := trodAll_cons r1
  obtain ⟨v3, vs3, d3, ds3, p3, q3, rfl, rfl, rfl, h3, r3⟩ := trodAll_cons r2
  obtain ⟨rfl, rfl, rfl⟩ := trodAll_nil r3
  obtain rfl : args = #[v0, v1, v2, v3] := by cases args; simp_all
  obtain ⟨rfl, rfl⟩ := trodVars_none hV
  have k0 := h0
  have lt0 : ∀ x ∈ p0, x.block < W.heap.size := by obtain ⟨m, hm⟩ := k0; exact DataW.trod_lt m _ _ _ hm
  obtain ⟨fu0, hf0⟩ := h0
  obtain ⟨cs0, rfl, hz0⟩ := okWide_struct Try.underlying25 (hval 0 25 v0 rfl rfl)
  obtain ⟨x0, hK0, a0, w0, e0⟩ := op_Bg _ _ _ _ _ _ _ _ hf0
  have t0 := rt_agg hK0
  rw [w0] at t0
  obtain ⟨a1, rfl, rfl, rfl, w1⟩ := open_int Try.underlying3 (hval 1 3 v1 rfl rfl) h1
  obtain ⟨a2, rfl, rfl, rfl, w2⟩ := open_int Try.underlying3 (hval 2 3 v2 rfl rfl) h2
  have k3 := h3
  have lt3 : ∀ x ∈ p3, x.block < W.heap.size := by obtain ⟨m, hm⟩ := k3; exact DataW.trod_lt m _ _ _ hm
  obtain ⟨fu3, hf3⟩ := h3
  obtain ⟨b3, len3, cap3, rfl⟩ := okWide_slice Try.underlying26 (hval 3 26 v3 rfl rfl)
  obtain ⟨x3, hK3, a3, w3, e3⟩ := op_Byss _ _ _ _ _ _ _ _ hf3
  obtain rfl := w3
  clear hA0 hval0 hsz0
  refine (tc_calls (vs := [_, .int .i64 a1, .int .i64 a2, _]) (lawPut a0 a1 a2 a3 e0 e3) ⟨t0, rt_val rfl, rt_val rfl, rt_cell hK3, trivial⟩ trivial).mono ?_
  rintro e W' ⟨he, bel⟩
  subst he
  exact ⟨_, rfl, _, _, _, [], _, [], hW', trodAll_mk1 (shut_bool Try.underlying4 _), (trodAll_cons_mk (Below.trod laidOut (by kernel_rfl) (of_decide_eq_true (by kernel_rfl)) k0 bel lt0) (trodAll_cons_mk (shut_int Try.underlying3 w1) (trodAll_cons_mk (shut_int Try.underlying3 w2) (trodAll_cons_mk (Below.trod laidOut (by kernel_rfl) (of_decide_eq_true (by kernel_rfl)) k3 bel lt3) trodAll_mk0)))), rfl, bel.frame _, fun h => by cases h⟩
theorem j0 : (Rows.fnExactBagPutRow.wf (OpenSpec.ofChange Rows.fnExactBagPutSpec)) = true := by kernel_rfl
theorem j1 : (laidOutB Try.prog) = true := by kernel_rfl
theorem j2 : (mapsRowed Try.prog) = true := by kernel_rfl
theorem j3 : (Try.f3.params.all (Try.prog.readableRec ·)) = true := by kernel_rfl
theorem j4 : (namedTie Try.prog Rows.fnExactBagPutRow.named Rows.fnExactBagPutSpec.vars) = true := by kernel_rfl
theorem j5 : ((Rows.fnExactBagPutRow.stops == [])) = true := by kernel_rfl
theorem j6 : ((Try.prog.stops == [])) = true := by kernel_rfl
theorem j7 : ((Rows.fnExactBagPutRow.knobs == [])) = true := by kernel_rfl
theorem j8 : ((Try.prog.stopKnobs == [])) = true := by kernel_rfl
theorem j9 : ((Rows.fnExactBagPutRow.inPlace == Try.prog.inPlace 3)) = true := by kernel_rfl
theorem j10 : ((Rows.fnExactBagPutRow.unfollowed == Try.prog.unfollowed 3)) = true := by kernel_rfl
theorem j11 : ((Rows.fnExactBagPutRow.recurses == Try.prog.recurses 3)) = true := by kernel_rfl
theorem j12 : ((Rows.fnExactBagPutRow.named == Try.prog.varsNamed 3)) = true := by kernel_rfl
theorem j13 : ((Rows.fnExactBagPutRow.maps == (Try.f3.params.toList ++ Rows.fnExactBagPutSpec.plain.varTypes Try.prog).any (Try.prog.mapsRec ·))) = true := by kernel_rfl
theorem j14 : ((Rows.fnExactBagPutRow.ifaces == (Try.f3.params.toList ++ Rows.fnExactBagPutSpec.plain.varTypes Try.prog).any (Try.prog.ifacesRec ·))) = true := by kernel_rfl
theorem j15 : ((Rows.fnExactBagPutRow.mapsOut == Try.prog.mapsAmong Try.f3.resultTypes.toList)) = true := by kernel_rfl
theorem j16 : ((Rows.fnExactBagPutRow.loops == (Try.f3.params.toList ++ Rows.fnExactBagPutSpec.plain.varTypes Try.prog).any (Try.prog.loopsFrom ·))) = true := by kernel_rfl
theorem j17 : ((Rows.fnExactBagPutRow.wideKeys == (Try.f3.params.toList ++ Rows.fnExactBagPutSpec.plain.varTypes Try.prog ++ Try.f3.resultTypes.toList).any (Try.prog.wideKeysFrom ·))) = true := by kernel_rfl
theorem j18 : (Rows.fnExactBagPutSpec.vars.all (Try.prog.varReadable ·)) = true := by kernel_rfl
theorem j19 : (Try.f3.resultTypes.all (fun t => Try.prog.readableRec t && decide (t < Try.prog.types.size))) = true := by kernel_rfl
theorem j20 : ((Rows.fnExactBagPutRow.ifacesOut == Try.f3.resultTypes.toList.any (Try.prog.ifacesRec ·))) = true := by kernel_rfl
theorem j21 : ((Rows.fnExactBagPutRow.loopsOut == Try.f3.resultTypes.toList.any (Try.prog.loopsFrom ·))) = true := by kernel_rfl
theorem j22 : ((Rows.fnExactBagPutRow.plainKeys == Try.prog.plainKeys)) = true := by kernel_rfl
theorem j23 : (Rows.fnExactBagPutRow.shortTexts.isNone) = true := by kernel_rfl
theorem j24 : (Try.prog.stopsHeard) = true := by kernel_rfl
theorem j25 : (Try.prog.mayEnter) = true := by kernel_rfl
theorem j26 : ((Rows.fnExactBagPutRow.lifted == Try.prog.liftsFinal)) = true := by kernel_rfl
theorem j27 : ((Try.prog.make == some Rows.fnExactBagPutRow.make)) = true := by kernel_rfl
theorem j28 : (kindsB Try.prog Try.f3 Rows.fnExactBagPutRow) = true := by kernel_rfl
theorem j29 : ((Rows.fnExactBagPutRow.pinned == Rows.fnExactBagPutRow.pinnedBy)) = true := by kernel_rfl
theorem j30 : ((Rows.fnExactBagPutRow.veiled == (Try.f3.params.toList ++ Rows.fnExactBagPutSpec.plain.varTypes Try.prog ++ Try.f3.resultTypes.toList).any (Try.prog.veiledRec ·))) = true := by kernel_rfl
theorem j31 : (Rows.fnExactBagPutRow.veiledFits Try.prog Try.f3.params.toList (Try.f3.params.toList ++ Rows.fnExactBagPutSpec.plain.varTypes Try.prog ++ Try.f3.resultTypes.toList)) = true := by kernel_rfl
theorem closed : joinedFacts Try.prog 3 Try.f3 Rows.fnExactBagPutSpec Rows.fnExactBagPutRow = true := closed_of j0 j1 j2 j3 j4 j5 j6 j7 j8 j9 j10 j11 j12 j13 j14 j15 j16 j17 j18 j19 j20 j21 j22 j23 j24 j25 j26 j27 j28 j29 j30 j31
theorem over : Rows.fnExactBagPutRow.holds Try.pinned (OpenSpec.ofChange Rows.fnExactBagPutSpec) :=
  OpenClaim.holds_of_wide 3 Try.f3 rfl rfl rfl rfl rfl rfl rfl ⟨rfl, rfl, rfl, rfl, rfl⟩ rfl rfl rfl rfl rfl (by kernel_rfl) Try.func3 closed
    (of_decide_eq_true (by kernel_rfl)) (by unfold Func.isWrapper; first | (rw [if_pos (by decide +kernel)]; kernel_rfl) | (rw [if_neg (by decide +kernel)]; exact ⟨rfl, rfl⟩))
    (fun os started H enc _ => lifted os started H enc)
theorem proved : Rows.FnExactBagPutSaid := over
#print axioms proved
end Go.Proofs.Ythnpbfljoghbmaa.fnExactBagPut
namespace Go.Proofs.Ythnpbfljoghbmaa
/-- The row, under a short name, for the claim. -/
theorem fnExactBagPut_holds : Rows.FnExactBagPutSaid := fnExactBagPut.proved
end Go.Proofs.Ythnpbfljoghbmaa
