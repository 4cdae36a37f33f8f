/- The row of the law FnClient. -/
import Derived.Test.YtgalnkilcajgcaaRows
import Derived.Test.YtgalnkilcajgcaaFDraw11
import Derived.WalkKit
import Derived.ProofKit
import Derived.OpenShut
import Derived.ShutString
import Derived.ChangeOld
import Derived.Below
import Derived.SizedLaws
namespace Go.Proofs.Ytgalnkilcajgcaa.fnClient
open Go.ChangeShapes Go.WideShapes Go.ChangeAt Go.RowKit Go.Proofs.Ytgalnkilcajgcaa Go.Proofs.YtgalnkilcajgcaaA
open Go.ChangeMaps (open_string shut_string)
set_option linter.unusedVariables false
theorem own : ownKnob Try.prog.godebug = none := by kernel_rfl
theorem laidOut : laidOutB Try.prog = true := by kernel_rfl
set_option maxHeartbeats 1000000 in
set_option maxRecDepth 100000 in
theorem lifted (os : Os) (started : os.Started) (H : Type) (enc : TypeId × Value → H) :
    ReturnsInHanded {} Try.checked os 3 .any (Rows.fnClientSpec.pre6 enc Try.prog Try.f3 Rows.fnClientRow.domain false) (Rows.fnClientSpec.post enc Try.prog Try.f3 false true false false) := by
  refine returnsInHanded_of_change_sized (C := Try.checked) own started (by kernel_rfl) Try.func3
    (ChangeSpec.witness6 (enc := enc) (C := Try.checked) false ⟨#[], #[.slice none 0 0], []⟩ 8 (by kernel_rfl) (by kernel_rfl) (by kernel_rfl) (by kernel_rfl)) ?_
  intro W base args ds gs before hval0 hW hcnd hsz0 _
  have hval : ∀ (j : Nat) t v, Try.f3.params[j]? = some t → args[j]? = some v → Value.okWide Try.prog W .any base t v := hval0
  have hW' := hW
  obtain ⟨p, q, hA0, hV, rfl, hfz, hnd⟩ := hW
  have hA : DataW.TrodAll enc Try.prog W 0 (fun _ => true) true Try.f3.params.toList args.toList ds p := hA0
  rw [Try.params3] at hA hval
  obtain ⟨v0, vs0, d0, ds0, p0, q0, hargs, rfl, rfl, h0, r0⟩ := trodAll_cons hA
  obtain ⟨rfl, rfl, rfl⟩ := trodAll_nil r0
  obtain rfl : args = #[v0] := by cases args; simp_all
  obtain ⟨rfl, rfl⟩ := trodVars_none hV
  have k0 := h0
  have lt0 : ∀ x ∈ p0, x.block < W.heap.size := by obtain ⟨m, hm⟩ := k0; exact DataW.trod_lt m _ _ _ hm
  obtain ⟨fu0, hf0⟩ := h0
  obtain ⟨b0, len0, cap0, rfl⟩ := okWide_slice Try.underlying22 (hval 0 22 v0 rfl rfl)
  obtain ⟨x0, hK0, a0, w0, e0⟩ := op_Byss _ _ _ _ _ _ _ _ hf0
  obtain rfl := w0
  clear hA0 hval0 hsz0
  refine (tc_calls (vs := [_]) (lawCl_tc a0 e0) ⟨rt_cell hK0, trivial⟩).mono ?_
  rintro e W' ⟨he, bel⟩
  subst he
  exact ⟨_, rfl, _, _, _, [], _, [], hW', trodAll_mk1 (shut_bool Try.underlying4 _), (trodAll_cons_mk (Below.trod laidOut (by kernel_rfl) (of_decide_eq_true (by kernel_rfl)) k0 bel lt0) trodAll_mk0), rfl, bel.frame _, fun h => by cases h⟩
theorem j0 : (Rows.fnClientRow.wf (OpenSpec.ofChange Rows.fnClientSpec)) = true := by kernel_rfl
theorem j1 : (laidOutB Try.prog) = true := by kernel_rfl
theorem j2 : (mapsRowed Try.prog) = true := by kernel_rfl
theorem j3 : (Try.f3.params.all (Try.prog.readableRec ·)) = true := by kernel_rfl
theorem j4 : (namedTie Try.prog Rows.fnClientRow.named Rows.fnClientSpec.vars) = true := by kernel_rfl
theorem j5 : ((Rows.fnClientRow.stops == [])) = true := by kernel_rfl
theorem j6 : ((Try.prog.stops == [])) = true := by kernel_rfl
theorem j7 : ((Rows.fnClientRow.knobs == [])) = true := by kernel_rfl
theorem j8 : ((Try.prog.stopKnobs == [])) = true := by kernel_rfl
theorem j9 : ((Rows.fnClientRow.inPlace == Try.prog.inPlace 3)) = true := by kernel_rfl
theorem j10 : ((Rows.fnClientRow.unfollowed == Try.prog.unfollowed 3)) = true := by kernel_rfl
theorem j11 : ((Rows.fnClientRow.recurses == Try.prog.recurses 3)) = true := by kernel_rfl
theorem j12 : ((Rows.fnClientRow.named == Try.prog.varsNamed 3)) = true := by kernel_rfl
theorem j13 : ((Rows.fnClientRow.maps == (Try.f3.params.toList ++ Rows.fnClientSpec.plain.varTypes Try.prog).any (Try.prog.mapsRec ·))) = true := by kernel_rfl
theorem j14 : ((Rows.fnClientRow.ifaces == (Try.f3.params.toList ++ Rows.fnClientSpec.plain.varTypes Try.prog).any (Try.prog.ifacesRec ·))) = true := by kernel_rfl
theorem j15 : ((Rows.fnClientRow.mapsOut == Try.prog.mapsAmong Try.f3.resultTypes.toList)) = true := by kernel_rfl
theorem j16 : ((Rows.fnClientRow.loops == (Try.f3.params.toList ++ Rows.fnClientSpec.plain.varTypes Try.prog).any (Try.prog.loopsFrom ·))) = true := by kernel_rfl
theorem j17 : ((Rows.fnClientRow.wideKeys == (Try.f3.params.toList ++ Rows.fnClientSpec.plain.varTypes Try.prog ++ Try.f3.resultTypes.toList).any (Try.prog.wideKeysFrom ·))) = true := by kernel_rfl
theorem j18 : (Rows.fnClientSpec.vars.all (Try.prog.varReadable ·)) = true := by kernel_rfl
theorem j19 : (Try.f3.resultTypes.all (fun t => Try.prog.readableRec t && decide (t < Try.prog.types.size))) = true := by kernel_rfl
theorem j20 : ((Rows.fnClientRow.ifacesOut == Try.f3.resultTypes.toList.any (Try.prog.ifacesRec ·))) = true := by kernel_rfl
theorem j21 : ((Rows.fnClientRow.loopsOut == Try.f3.resultTypes.toList.any (Try.prog.loopsFrom ·))) = true := by kernel_rfl
theorem j22 : ((Rows.fnClientRow.plainKeys == Try.prog.plainKeys)) = true := by kernel_rfl
theorem j23 : (Rows.fnClientRow.shortTexts.isNone) = true := by kernel_rfl
theorem j24 : (Try.prog.stopsHeard) = true := by kernel_rfl
theorem j25 : (Try.prog.mayEnter) = true := by kernel_rfl
theorem j26 : ((Rows.fnClientRow.lifted == Try.prog.liftsFinal)) = true := by kernel_rfl
theorem j27 : ((Try.prog.make == some Rows.fnClientRow.make)) = true := by kernel_rfl
theorem j28 : (kindsB Try.prog Try.f3 Rows.fnClientRow) = true := by kernel_rfl
theorem j29 : ((Rows.fnClientRow.pinned == Rows.fnClientRow.pinnedBy)) = true := by kernel_rfl
theorem j30 : ((Rows.fnClientRow.veiled == (Try.f3.params.toList ++ Rows.fnClientSpec.plain.varTypes Try.prog ++ Try.f3.resultTypes.toList).any (Try.prog.veiledRec ·))) = true := by kernel_rfl
theorem j31 : (Rows.fnClientRow.veiledFits Try.prog Try.f3.params.toList (Try.f3.params.toList ++ Rows.fnClientSpec.plain.varTypes Try.prog ++ Try.f3.resultTypes.toList)) = true := by kernel_rfl
theorem closed : joinedFacts Try.prog 3 Try.f3 Rows.fnClientSpec Rows.fnClientRow = true := closed_of j0 j1 j2 j3 j4 j5 j6 j7 j8 j9 j10 j11 j12 j13 j14 j15 j16 j17 j18 j19 j20 j21 j22 j23 j24 j25 j26 j27 j28 j29 j30 j31
theorem over : Rows.fnClientRow.holds Try.pinned (OpenSpec.ofChange Rows.fnClientSpec) :=
  OpenClaim.holds_of_wide 3 Try.f3 rfl rfl rfl rfl rfl rfl rfl ⟨rfl, rfl, rfl, rfl, rfl⟩ rfl rfl rfl rfl rfl (by kernel_rfl) Try.func3 closed
    (of_decide_eq_true (by kernel_rfl)) (by unfold Func.isWrapper; first | (rw [if_pos (by decide +kernel)]; kernel_rfl) | (rw [if_neg (by decide +kernel)]; exact ⟨rfl, rfl⟩))
    (fun os started H enc _ => lifted os started H enc)
theorem proved : Rows.FnClientSaid := over
#print axioms proved
end Go.Proofs.Ytgalnkilcajgcaa.fnClient
namespace Go.Proofs.Ytgalnkilcajgcaa
/-- The row, under a short name, for the claim. -/
theorem fnClient_holds : Rows.FnClientSaid := fnClient.proved
end Go.Proofs.Ytgalnkilcajgcaa
