/- The row of the law FnDisk. -/
import Derived.Test.YtaolgdpkcbfocaaDoorRows
import Derived.Test.YtaolgdpkcbfocaaDoorCards
import Derived.Test.YtaolgdpkcbfocaaDoorTie
import Derived.Test.YtaolgdpkcbfocaaDoorFDoor2
import Derived.SevenTiedAt
import Derived.OpenVars
import Derived.Stop.Joined
import Derived.LaidMore
import Derived.Test.YtaolgdpkcbfocaaDoorB7
import Derived.WalkKit
import Derived.ProofKit
import Derived.OpenShut
import Derived.ShutString
import Derived.ChangeOld
import Derived.Below
import Derived.SizedLaws
namespace Go.Proofs.YtaolgdpkcbfocaaDoor.fnDisk
open Go.ChangeShapes Go.WideShapes Go.ChangeAt Go.RowKit Go.Proofs.YtaolgdpkcbfocaaDoor Go.Proofs.YtaolgdpkcbfocaaDoorA
open Go.ChangeMaps (open_string shut_string)
set_option linter.unusedVariables false
theorem own : ownKnob Tryd.prog.godebug = none := by kernel_rfl
theorem laidOut : laidOutB Tryd.prog = true := by kernel_rfl
set_option maxHeartbeats 1000000 in
set_option maxRecDepth 100000 in
theorem lifted (os : Os) (started : os.Started) (H : Type) (enc : TypeId × Value → H) :
    ReturnsInHanded {} Tryd.checked os 8 .any (fun w args => (Rows.fnDiskSpec.pre enc Tryd.prog Tryd.f8 [] false w args ∧ laidMetH Tryd.prog laidL w) ∧ sizedMet enc Tryd.prog Tryd.f8 (OpenSpec.ofChange Rows.fnDiskSpec) false w args) (Rows.fnDiskSpec.post enc Tryd.prog Tryd.f8 false true false false) := by
  refine returnsInHanded_of_change_and (C := Tryd.checked) (X := fun w _ => laidMetH Tryd.prog laidL w) (fun _ _ _ hh h => h.of_heap hh) own started (by kernel_rfl) Tryd.func8
    (ChangeSpec.witness_shaped (enc := enc) (C := Tryd.checked) (os := os) (X := fun w _ => laidMetH Tryd.prog laidL w) false (World.doorLaid Tryd.prog 400 os) #[.slice none 0 0, .slice none 0 0] 8 rfl (World.shaped_of_RefB (by kernel_rfl) (by kernel_rfl)) (by kernel_rfl) (by kernel_rfl) (by kernel_rfl) (door_met os _)) ?_
  intro W base args ds gs before hval0 hW hcnd hsz0 hL _
  have hval : ∀ (j : Nat) t v, Tryd.f8.params[j]? = some t → args[j]? = some v → Value.okWide Tryd.prog W .any base t v := hval0
  have hW' := hW
  obtain ⟨p, q, hA0, hV, rfl, hfz, hnd⟩ := hW
  have hA : DataW.TrodAll enc Tryd.prog W 0 (fun _ => true) true Tryd.f8.params.toList args.toList ds p := hA0
  rw [Tryd.params8] at hA hval
  obtain ⟨v0, vs0, d0, ds0, p0, q0, hargs, rfl, rfl, h0, r0⟩ := trodAll_cons hA
  obtain ⟨v1, vs1, d1, ds1, p1, q1, rfl, rfl, rfl, h1, r1⟩ := trodAll_cons r0
  obtain ⟨rfl, rfl, rfl⟩ := trodAll_nil r1
  obtain rfl : args = #[v0, v1] := by cases args; simp_all
  obtain ⟨gv0, tv0, csv0, fuv0, dv0, pv0, gv1, tv1, csv1, fuv1, dv1, pv1, rfl, hgv0, htv0, hvv0, hdv0, hgv1, htv1, hvv1, hdv1, rfl⟩ := trodVars_two hV
  have k0 := h0
  have lt0 : ∀ x ∈ p0, x.block < W.heap.size := by obtain ⟨m, hm⟩ := k0; exact DataW.trod_lt m _ _ _ hm
  obtain ⟨fu0, hf0⟩ := h0
  obtain ⟨b0, len0, cap0, rfl⟩ := okWide_slice Tryd.underlying25 (hval 0 25 v0 rfl rfl)
  obtain ⟨x0, hK0, a0, w0, e0⟩ := op_Byss _ _ _ _ _ _ _ _ hf0
  obtain rfl := w0
  have k1 := h1
  have lt1 : ∀ x ∈ p1, x.block < W.heap.size := by obtain ⟨m, hm⟩ := k1; exact DataW.trod_lt m _ _ _ hm
  obtain ⟨fu1, hf1⟩ := h1
  obtain ⟨b1, len1, cap1, rfl⟩ := okWide_slice Tryd.underlying25 (hval 1 25 v1 rfl rfl)
  obtain ⟨x1, hK1, a1, w1, e1⟩ := op_Byss _ _ _ _ _ _ _ _ hf1
  obtain rfl := w1
  clear hA0 hval0 hsz0
  refine (tc_calls (vs := [_, _]) (lawDsk_tc a0 a1 e0 e1) ⟨rt_cell hK0, rt_cell hK1, trivial⟩ (pre_of_laid hL)).mono ?_
  rintro e W' ⟨he, bel⟩
  subst he
  exact ⟨_, rfl, _, _, _, [], _, _, hW', trodAll_mk1 (shut_bool Tryd.underlying4 _), (trodAll_cons_mk (Below.trod laidOut (by kernel_rfl) (of_decide_eq_true (by kernel_rfl)) k0 bel lt0) (trodAll_cons_mk (Below.trod laidOut (by kernel_rfl) (of_decide_eq_true (by kernel_rfl)) k1 bel lt1) trodAll_mk0)), Below.trodVars laidOut bel (by kernel_rfl) hV, bel.frame _, fun h => by cases h⟩
theorem j0 : (Rows.fnDiskRow.wf (OpenSpec.ofChange Rows.fnDiskSpec)) = true := by kernel_rfl
theorem j1 : (laidOutB Tryd.prog) = true := by kernel_rfl
theorem j2 : (mapsRowed Tryd.prog) = true := by kernel_rfl
theorem j3 : (Tryd.f8.params.all (Tryd.prog.readableRec ·)) = true := by kernel_rfl
theorem j4 : (namedTie Tryd.prog Rows.fnDiskRow.named Rows.fnDiskSpec.vars) = true := by kernel_rfl
theorem j5 : ((Rows.fnDiskRow.stops == [])) = true := by kernel_rfl
theorem j6 : ((Tryd.prog.stops == [])) = true := by kernel_rfl
theorem j7 : ((Rows.fnDiskRow.knobs == [])) = true := by kernel_rfl
theorem j8 : ((Tryd.prog.stopKnobs == [])) = true := by kernel_rfl
theorem j9 : ((Rows.fnDiskRow.inPlace == Tryd.prog.inPlace 8)) = true := by kernel_rfl
theorem j10 : ((Rows.fnDiskRow.unfollowed == Tryd.prog.unfollowed 8)) = true := by kernel_rfl
theorem j11 : ((Rows.fnDiskRow.recurses == Tryd.prog.recurses 8)) = true := by kernel_rfl
theorem j12 : ((Rows.fnDiskRow.named == Tryd.prog.varsNamed 8)) = true := by kernel_rfl
theorem j13 : ((Rows.fnDiskRow.maps == (Tryd.f8.params.toList ++ Rows.fnDiskSpec.plain.varTypes Tryd.prog).any (Tryd.prog.mapsRec ·))) = true := by kernel_rfl
theorem j14 : ((Rows.fnDiskRow.ifaces == (Tryd.f8.params.toList ++ Rows.fnDiskSpec.plain.varTypes Tryd.prog).any (Tryd.prog.ifacesRec ·))) = true := by kernel_rfl
theorem j15 : ((Rows.fnDiskRow.mapsOut == Tryd.prog.mapsAmong Tryd.f8.resultTypes.toList)) = true := by kernel_rfl
theorem j16 : ((Rows.fnDiskRow.loops == (Tryd.f8.params.toList ++ Rows.fnDiskSpec.plain.varTypes Tryd.prog).any (Tryd.prog.loopsFrom ·))) = true := by kernel_rfl
theorem j17 : ((Rows.fnDiskRow.wideKeys == (Tryd.f8.params.toList ++ Rows.fnDiskSpec.plain.varTypes Tryd.prog ++ Tryd.f8.resultTypes.toList).any (Tryd.prog.wideKeysFrom ·))) = true := by kernel_rfl
theorem j18 : (Rows.fnDiskSpec.vars.all (Tryd.prog.varReadable ·)) = true := by kernel_rfl
theorem j19 : (Tryd.f8.resultTypes.all (fun t => Tryd.prog.readableRec t && decide (t < Tryd.prog.types.size))) = true := by kernel_rfl
theorem j20 : ((Rows.fnDiskRow.ifacesOut == Tryd.f8.resultTypes.toList.any (Tryd.prog.ifacesRec ·))) = true := by kernel_rfl
theorem j21 : ((Rows.fnDiskRow.loopsOut == Tryd.f8.resultTypes.toList.any (Tryd.prog.loopsFrom ·))) = true := by kernel_rfl
theorem j22 : ((Rows.fnDiskRow.plainKeys == Tryd.prog.plainKeys)) = true := by kernel_rfl
theorem j23 : (Rows.fnDiskRow.shortTexts.isNone) = true := by kernel_rfl
theorem j24 : (Tryd.prog.stopsHeard) = true := by kernel_rfl
theorem j25 : (Tryd.prog.mayEnter) = true := by kernel_rfl
theorem j26 : ((Rows.fnDiskRow.lifted == Tryd.prog.liftsFinal)) = true := by kernel_rfl
theorem j27 : ((Tryd.prog.make == some Rows.fnDiskRow.make)) = true := by kernel_rfl
theorem j28 : (kindsB Tryd.prog Tryd.f8 Rows.fnDiskRow) = true := by kernel_rfl
theorem j29 : ((Rows.fnDiskRow.pinned == Rows.fnDiskRow.pinnedBy)) = true := by kernel_rfl
theorem j30 : ((Rows.fnDiskRow.veiled == (Tryd.f8.params.toList ++ Rows.fnDiskSpec.plain.varTypes Tryd.prog ++ Tryd.f8.resultTypes.toList).any (Tryd.prog.veiledRec ·))) = true := by kernel_rfl
theorem j31 : (Rows.fnDiskRow.veiledFits Tryd.prog Tryd.f8.params.toList (Tryd.f8.params.toList ++ Rows.fnDiskSpec.plain.varTypes Tryd.prog ++ Tryd.f8.resultTypes.toList)) = true := by kernel_rfl
theorem closed : joinedFacts Tryd.prog 8 Tryd.f8 Rows.fnDiskSpec Rows.fnDiskRow = true := closed_of j0 j1 j2 j3 j4 j5 j6 j7 j8 j9 j10 j11 j12 j13 j14 j15 j16 j17 j18 j19 j20 j21 j22 j23 j24 j25 j26 j27 j28 j29 j30 j31
theorem over : Rows.fnDiskRow.holds Tryd.pinned (OpenSpec.ofChange Rows.fnDiskSpec) :=
  OpenClaim.holds_of_wide 8 Tryd.f8 rfl rfl rfl rfl rfl rfl rfl ⟨rfl, rfl, rfl, rfl, rfl⟩ rfl rfl rfl rfl rfl (by kernel_rfl) Tryd.func8 closed
    (of_decide_eq_true (by kernel_rfl)) (by unfold Func.isWrapper; first | (rw [if_pos (by decide +kernel)]; kernel_rfl) | (rw [if_neg (by decide +kernel)]; exact ⟨rfl, rfl⟩))
    (fun os started H enc _ => lifted os started H enc)
theorem card : Rows.FnDiskCardSaid :=
  Claim7.holds_tied_plain_at .later [] [.data, .sentinel] true (true, "59ee1c8594591b5753a15652709313ca4caf9c22a94e0788338a4bfda3687f50") true
    over (fun _ h => by cases h) (by kernel_rfl) (fun _ h => by cases h) fnDisk_row_tie rfl ⟨rfl, rfl⟩ (by kernel_rfl) rfl
    (fun f fn hf hfn => by
      obtain rfl : f = 8 := Option.some.inj ((show Tryd.prog.funcNamed "loop.example/s01586/laws.FnDisk" = some 8 by kernel_rfl).symm.trans hf) |>.symm
      obtain rfl : fn = Tryd.f8 := (Option.some.inj (Tryd.func8.symm.trans hfn)).symm
      exact ⟨by kernel_rfl, fun j t ht => by
        have hall : (Tryd.f8.params.toList.all fun u => !Tryd.prog.wantsStandIn u) = true := by kernel_rfl
        have hm : t ∈ Tryd.f8.params.toList := Array.mem_toList_iff.mpr (Array.mem_of_getElem? ht)
        exact (show Tryd.prog.wantsStandIn t = false by simpa using List.all_eq_true.1 hall t hm)⟩)
    (by kernel_rfl)
#print axioms card
end Go.Proofs.YtaolgdpkcbfocaaDoor.fnDisk
namespace Go.Proofs.YtaolgdpkcbfocaaDoor
/-- The card, under a short name, for the claim. -/
theorem fnDisk_holds : Rows.FnDiskCardSaid := fnDisk.card
end Go.Proofs.YtaolgdpkcbfocaaDoor
