-- WRITTEN by a turned copy of the kit's print program (wip/bin/mkprint.py of this work): Lean checks it.
import Derived.Test.YtmiocbonmknioaaPx0
import Derived.Test.YtmiocbonmknioaaPx1
import Derived.Test.YtmiocbonmknioaaPx3
import Derived.Test.YtmiocbonmknioaaPx4
import Derived.Test.YtmiocbonmknioaaPx5
namespace Go.Proofs.Ytmiocbonmknioaa.P
open Go.RowKit Go.Proofs.YtmiocbonmknioaaW.PrintWords Go.Proofs.YtmiocbonmknioaaW.PrintLast Go.Proofs.YtmiocbonmknioaaW.PrintMore
attribute [local go_sem] max2_int min2_int max_two min_two max_three min_three max_four min_four   -- for this text's walks alone
set_option linter.unusedVariables false
set_option linter.unusedSimpArgs false

/-! ### laws_FnExactCmdFault: function 10 -/
def laws_FnExactCmdFault.f (k : Nat) (a0_0 : Int) (a0_1 : Int) (a0_2 : Int) (a0_3 : ByteArray) (a0_4 : ByteArray) (a0_5 : ByteArray) : Option (Bool) := (laws_szCmd.f a0_0 a0_1 a0_2 a0_3 a0_4 a0_5 1048576).bind fun t180 => (if t180 < 0 then (some true) else ((laws_toCmd.f a0_0 a0_1 a0_2 a0_3 a0_4 a0_5).bind fun bt181 => ((spec_CmdFault.f k bt181.1 bt181.2.1 bt181.2.2.1 bt181.2.2.2.1 bt181.2.2.2.2.1 bt181.2.2.2.2.2).bind fun t187 => ((laws_toCmd.f a0_0 a0_1 a0_2 a0_3 a0_4 a0_5).bind fun bt188 => ((impl_CmdFault.f k bt188.1 bt188.2.1 bt188.2.2.1 bt188.2.2.2.1 bt188.2.2.2.2.1 bt188.2.2.2.2.2).bind fun t194 => (if t194 = t187 then (some true) else (none)))))))
theorem laws_FnExactCmdFault.mono : ∀ a0 a1 a2 a3 a4 a5 k, LeO (laws_FnExactCmdFault.f k a0 a1 a2 a3 a4 a5) (laws_FnExactCmdFault.f (k + 1) a0 a1 a2 a3 a4 a5) := by
  intro a0 a1 a2 a3 a4 a5 k
  unfold laws_FnExactCmdFault.f
  repeat' first
      | (with_reducible exact impl_CmdFault.mono _ _ _ _ _ _ _)
      | (with_reducible exact spec_CmdFault.mono _ _ _ _ _ _ _)
      | (with_reducible exact LeO.refl _)
      | (with_reducible exact LeO.none _)
      | (with_reducible refine LeO.ite ?_ ?_)
      | (with_reducible refine LeO.bind ?_ (fun _ => ?_))
      | exact impl_CmdFault.mono _ _ _ _ _ _ _
      | exact spec_CmdFault.mono _ _ _ _ _ _ _
      | exact LeO.none _
      | refine LeO.ite ?_ ?_
      | refine LeO.bind ?_ (fun _ => ?_)
set_option maxHeartbeats 8000000 in
set_option maxRecDepth 100000 in
theorem laws_FnExactCmdFault.calls (k : Nat) (a0_0 : Int) (a0_1 : Int) (a0_2 : Int) (a0_3 : ByteArray) (a0_4 : ByteArray) (a0_5 : ByteArray) (r : Bool) (w : World) (h : laws_FnExactCmdFault.f k a0_0 a0_1 a0_2 a0_3 a0_4 a0_5 = some r) :
    Calls Try.prog 10 #[.agg #[.int .i64 a0_0, .int .i64 a0_1, .int .i64 a0_2, .string a0_3, .string a0_4, .string a0_5]] w fun e w' => e = .returned (.bool r) ∧ Below w.heap.size w w' := by
  have hu46 := Try.underlying46
  have HB := Aside0.mk (Below.refl w.heap.size w)
  have H : ((laws_szCmd.f a0_0 a0_1 a0_2 a0_3 a0_4 a0_5 1048576).bind fun t180 => (if t180 < 0 then (some true) else ((laws_toCmd.f a0_0 a0_1 a0_2 a0_3 a0_4 a0_5).bind fun bt181 => ((spec_CmdFault.f k bt181.1 bt181.2.1 bt181.2.2.1 bt181.2.2.2.1 bt181.2.2.2.2.1 bt181.2.2.2.2.2).bind fun t187 => ((laws_toCmd.f a0_0 a0_1 a0_2 a0_3 a0_4 a0_5).bind fun bt188 => ((impl_CmdFault.f k bt188.1 bt188.2.1 bt188.2.2.1 bt188.2.2.2.1 bt188.2.2.2.2.1 bt188.2.2.2.2.2).bind fun t194 => (if t194 = t187 then (some true) else (none)))))))) = some r := h
  clear h
  replace H := Option.bind_eq_some_iff.mp H
  obtain ⟨t180, A20, H⟩ := H
  replace H : (if t180 < 0 then (some true) else ((laws_toCmd.f a0_0 a0_1 a0_2 a0_3 a0_4 a0_5).bind fun bt181 => ((spec_CmdFault.f k bt181.1 bt181.2.1 bt181.2.2.1 bt181.2.2.2.1 bt181.2.2.2.2.1 bt181.2.2.2.2.2).bind fun t187 => ((laws_toCmd.f a0_0 a0_1 a0_2 a0_3 a0_4 a0_5).bind fun bt188 => ((impl_CmdFault.f k bt188.1 bt188.2.1 bt188.2.2.1 bt188.2.2.2.1 bt188.2.2.2.2.1 bt188.2.2.2.2.2).bind fun t194 => (if t194 = t187 then (some true) else (none))))))) = some r := H
  have A2 := Aside0.mk A20
  clear A20
  by_cases c3 : t180 < 0
  · rw [if_pos c3] at H
    have c3b0 : decide (t180 < 0) = true := decide_eq_true c3
    clear c3
    obtain rfl := Option.some.inj H
    go_enter Try.func10, Try.ntmps10
    go_wp2_with (first | ((with_reducible refine gate_dst (N := 1) rfl ?_); refine box_event ?hg (N := 1) ?hd (cs := #[.int .i64 a0_0, .int .i64 a0_1, .int .i64 a0_2, .string a0_3, .string a0_4, .string a0_5]) (t := 46) ?hr ?_; (case hd => rfl); (case hg => rfl); (case hr => first | (go_simp; done) | (go_simp; rfl)); intro gb179 hg w4 hbox hb; have n0_ := Aside0.mk (below_step (by repeat (first | (with_reducible first | exact HB.out | apply below_alloc | apply pw_below_drewN | apply below_drew1) | exact HB.out)) hb); have n1_ := Aside0.mk (hbox); have n2_ := Aside0.mk ((by rw [hg]; exact (below_size (by repeat (first | (with_reducible first | exact HB.out | apply below_alloc | apply pw_below_drewN | apply below_drew1) | exact HB.out))) : w.heap.size ≤ gb179)); have n3_ := Aside0.mk ((by rw [hg]; exact (below_size (by repeat (first | (with_reducible first | exact HB.out | apply below_alloc | apply pw_below_drewN | apply below_drew1) | exact HB.out))) : w.heap.size ≤ gb179)); clear HB; have HB := n0_; have BK179 := n1_; have GW179 := n2_; have GE179 := n3_; clear n0_ n1_ n2_ n3_; clear hb hbox hg; have hcz5_0 : w4.cell? ⟨gb179, 0, none⟩ = some (.int .i64 a0_0) := (blk_cell BK179.out 0).trans rfl; have hcz5_1 : w4.cell? ⟨gb179, 1, none⟩ = some (.int .i64 a0_1) := (blk_cell BK179.out 1).trans rfl; have hcz5_2 : w4.cell? ⟨gb179, 2, none⟩ = some (.int .i64 a0_2) := (blk_cell BK179.out 2).trans rfl; have hcz5_3 : w4.cell? ⟨gb179, 3, none⟩ = some (.string a0_3) := (blk_cell BK179.out 3).trans rfl; have hcz5_4 : w4.cell? ⟨gb179, 4, none⟩ = some (.string a0_4) := (blk_cell BK179.out 4).trans rfl; have hcz5_5 : w4.cell? ⟨gb179, 5, none⟩ = some (.string a0_5) := (blk_cell BK179.out 5).trans rfl; have hfz5_0 := blk_frozen BK179.out 0; have hfz5_1 := blk_frozen BK179.out 1; have hfz5_2 := blk_frozen BK179.out 2; have hfz5_3 := blk_frozen BK179.out 3; have hfz5_4 := blk_frozen BK179.out 4; have hfz5_5 := blk_frozen BK179.out 5) | ((with_reducible refine gate_callee (f := 32) rfl ?_); refine goesL_ (some 8) rfl rfl Try.func32 (by kernel_rfl) rfl #[.agg #[.int .i64 a0_0, .int .i64 a0_1, .int .i64 a0_2, .string a0_3, .string a0_4, .string a0_5], .int .i64 1048576] rfl (by (try simp only [List.map_toArray, List.map_cons, List.map_nil]); first | done | rfl | (simp only [List.length_drop, List.length_take]; rfl)) ?_; (with_reducible refine (laws_szCmd.calls a0_0 a0_1 a0_2 a0_3 a0_4 a0_5 1048576 t180 _ A2.out).mono ?_); rintro e w6 ⟨rfl, hb⟩; refine ⟨_, rfl, ?_⟩; have n0_ := Aside0.mk (blk_below (g := gb179) (o := .cells #[.int .i64 a0_0, .int .i64 a0_1, .int .i64 a0_2, .string a0_3, .string a0_4, .string a0_5] 46 (0, 0)) (by (with_reducible repeat (first | refine blk_drewN ?_ _ | refine blk_drew ?_ | refine blk_alloc ?_ _)); exact BK179.out) hb); have n1_ := Aside0.mk (below_step (by repeat (first | (with_reducible first | exact HB.out | apply below_alloc | apply pw_below_drewN | apply below_drew1 | refine below_set ?_ GE179.out) | exact HB.out)) hb); clear BK179; clear HB; have BK179 := n0_; have HB := n1_; clear n0_ n1_; (try clear hb); (try clear hb2); (try clear hk); (try clear hi)))
    go_ret
    exact ⟨by first | rfl | (simp [errW_none, errW_some] <;> rfl) | (simp [*, errW_none, errW_some] <;> rfl), by repeat (first | (with_reducible first | exact HB.out | apply below_alloc | apply pw_below_drewN | apply below_drew1 | refine below_set ?_ GE179.out) | exact HB.out)⟩
  · rw [if_neg c3] at H
    have c3b0 : decide (t180 < 0) = false := decide_eq_false c3
    clear c3
    replace H := Option.bind_eq_some_iff.mp H
    obtain ⟨⟨t181, t182, t183, t184, t185, t186⟩, A70, H⟩ := H
    replace H : ((spec_CmdFault.f k t181 t182 t183 t184 t185 t186).bind fun t187 => ((laws_toCmd.f a0_0 a0_1 a0_2 a0_3 a0_4 a0_5).bind fun bt188 => ((impl_CmdFault.f k bt188.1 bt188.2.1 bt188.2.2.1 bt188.2.2.2.1 bt188.2.2.2.2.1 bt188.2.2.2.2.2).bind fun t194 => (if t194 = t187 then (some true) else (none))))) = some r := H
    have A7 := Aside0.mk A70
    clear A70
    replace H := Option.bind_eq_some_iff.mp H
    obtain ⟨t187, A80, H⟩ := H
    replace H : ((laws_toCmd.f a0_0 a0_1 a0_2 a0_3 a0_4 a0_5).bind fun bt188 => ((impl_CmdFault.f k bt188.1 bt188.2.1 bt188.2.2.1 bt188.2.2.2.1 bt188.2.2.2.2.1 bt188.2.2.2.2.2).bind fun t194 => (if t194 = t187 then (some true) else (none)))) = some r := H
    have A8 := Aside0.mk A80
    clear A80
    replace H := Option.bind_eq_some_iff.mp H
    obtain ⟨⟨t188, t189, t190, t191, t192, t193⟩, A90, H⟩ := H
    replace H : ((impl_CmdFault.f k t188 t189 t190 t191 t192 t193).bind fun t194 => (if t194 = t187 then (some true) else (none))) = some r := H
    have A9 := Aside0.mk A90
    clear A90
    replace H := Option.bind_eq_some_iff.mp H
    obtain ⟨t194, A100, H⟩ := H
    replace H : (if t194 = t187 then (some true) else (none)) = some r := H
    have A10 := Aside0.mk A100
    clear A100
    by_cases c11 : t194 = t187
    · rw [if_pos c11] at H
      have c11b0 : (t194 == t187) = true := beq_iff_eq.mpr c11
      have c11b1 : (t194 != t187) = false := bne_eq_false_iff_eq.mpr c11
      clear c11
      obtain rfl := Option.some.inj H
      go_enter Try.func10, Try.ntmps10
      go_wp2_with (first | ((with_reducible refine gate_dst (N := 1) rfl ?_); refine box_event ?hg (N := 1) ?hd (cs := #[.int .i64 a0_0, .int .i64 a0_1, .int .i64 a0_2, .string a0_3, .string a0_4, .string a0_5]) (t := 46) ?hr ?_; (case hd => rfl); (case hg => rfl); (case hr => first | (go_simp; done) | (go_simp; rfl)); intro gb179 hg w12 hbox hb; have n0_ := Aside0.mk (below_step (by repeat (first | (with_reducible first | exact HB.out | apply below_alloc | apply pw_below_drewN | apply below_drew1) | exact HB.out)) hb); have n1_ := Aside0.mk (hbox); have n2_ := Aside0.mk ((by rw [hg]; exact (below_size (by repeat (first | (with_reducible first | exact HB.out | apply below_alloc | apply pw_below_drewN | apply below_drew1) | exact HB.out))) : w.heap.size ≤ gb179)); have n3_ := Aside0.mk ((by rw [hg]; exact (below_size (by repeat (first | (with_reducible first | exact HB.out | apply below_alloc | apply pw_below_drewN | apply below_drew1) | exact HB.out))) : w.heap.size ≤ gb179)); clear HB; have HB := n0_; have BK179 := n1_; have GW179 := n2_; have GE179 := n3_; clear n0_ n1_ n2_ n3_; clear hb hbox hg; have hcz13_0 : w12.cell? ⟨gb179, 0, none⟩ = some (.int .i64 a0_0) := (blk_cell BK179.out 0).trans rfl; have hcz13_1 : w12.cell? ⟨gb179, 1, none⟩ = some (.int .i64 a0_1) := (blk_cell BK179.out 1).trans rfl; have hcz13_2 : w12.cell? ⟨gb179, 2, none⟩ = some (.int .i64 a0_2) := (blk_cell BK179.out 2).trans rfl; have hcz13_3 : w12.cell? ⟨gb179, 3, none⟩ = some (.string a0_3) := (blk_cell BK179.out 3).trans rfl; have hcz13_4 : w12.cell? ⟨gb179, 4, none⟩ = some (.string a0_4) := (blk_cell BK179.out 4).trans rfl; have hcz13_5 : w12.cell? ⟨gb179, 5, none⟩ = some (.string a0_5) := (blk_cell BK179.out 5).trans rfl; have hfz13_0 := blk_frozen BK179.out 0; have hfz13_1 := blk_frozen BK179.out 1; have hfz13_2 := blk_frozen BK179.out 2; have hfz13_3 := blk_frozen BK179.out 3; have hfz13_4 := blk_frozen BK179.out 4; have hfz13_5 := blk_frozen BK179.out 5) | ((with_reducible refine gate_callee (f := 32) rfl ?_); refine goesL_ (some 8) rfl rfl Try.func32 (by kernel_rfl) rfl #[.agg #[.int .i64 a0_0, .int .i64 a0_1, .int .i64 a0_2, .string a0_3, .string a0_4, .string a0_5], .int .i64 1048576] rfl (by (try simp only [List.map_toArray, List.map_cons, List.map_nil]); first | done | rfl | (simp only [List.length_drop, List.length_take]; rfl)) ?_; (with_reducible refine (laws_szCmd.calls a0_0 a0_1 a0_2 a0_3 a0_4 a0_5 1048576 t180 _ A2.out).mono ?_); rintro e w14 ⟨rfl, hb⟩; refine ⟨_, rfl, ?_⟩; have n0_ := Aside0.mk (blk_below (g := gb179) (o := .cells #[.int .i64 a0_0, .int .i64 a0_1, .int .i64 a0_2, .string a0_3, .string a0_4, .string a0_5] 46 (0, 0)) (by (with_reducible repeat (first | refine blk_drewN ?_ _ | refine blk_drew ?_ | refine blk_alloc ?_ _)); exact BK179.out) hb); have n1_ := Aside0.mk (below_step (by repeat (first | (with_reducible first | exact HB.out | apply below_alloc | apply pw_below_drewN | apply below_drew1 | refine below_set ?_ GE179.out) | exact HB.out)) hb); clear BK179; clear HB; have BK179 := n0_; have HB := n1_; clear n0_ n1_; (try clear hb); (try clear hb2); (try clear hk); (try clear hi); have hcz15_0 : w14.cell? ⟨gb179, 0, none⟩ = some (.int .i64 a0_0) := (blk_cell BK179.out 0).trans rfl; have hcz15_1 : w14.cell? ⟨gb179, 1, none⟩ = some (.int .i64 a0_1) := (blk_cell BK179.out 1).trans rfl; have hcz15_2 : w14.cell? ⟨gb179, 2, none⟩ = some (.int .i64 a0_2) := (blk_cell BK179.out 2).trans rfl; have hcz15_3 : w14.cell? ⟨gb179, 3, none⟩ = some (.string a0_3) := (blk_cell BK179.out 3).trans rfl; have hcz15_4 : w14.cell? ⟨gb179, 4, none⟩ = some (.string a0_4) := (blk_cell BK179.out 4).trans rfl; have hcz15_5 : w14.cell? ⟨gb179, 5, none⟩ = some (.string a0_5) := (blk_cell BK179.out 5).trans rfl; have hfz15_0 := blk_frozen BK179.out 0; have hfz15_1 := blk_frozen BK179.out 1; have hfz15_2 := blk_frozen BK179.out 2; have hfz15_3 := blk_frozen BK179.out 3; have hfz15_4 := blk_frozen BK179.out 4; have hfz15_5 := blk_frozen BK179.out 5) | ((with_reducible refine gate_callee (f := 34) rfl ?_); refine goesL_ (some 12) rfl rfl Try.func34 (by kernel_rfl) rfl #[.agg #[.int .i64 a0_0, .int .i64 a0_1, .int .i64 a0_2, .string a0_3, .string a0_4, .string a0_5]] rfl (by (try simp only [List.map_toArray, List.map_cons, List.map_nil]); first | done | rfl | (simp only [List.length_drop, List.length_take]; rfl)) ?_; (with_reducible refine (laws_toCmd.calls a0_0 a0_1 a0_2 a0_3 a0_4 a0_5 t181 t182 t183 t184 t185 t186 _ A7.out).mono ?_); rintro e w16 ⟨rfl, hb⟩; refine ⟨_, rfl, ?_⟩; have n0_ := Aside0.mk (blk_below (g := gb179) (o := .cells #[.int .i64 a0_0, .int .i64 a0_1, .int .i64 a0_2, .string a0_3, .string a0_4, .string a0_5] 46 (0, 0)) (by (with_reducible repeat (first | refine blk_drewN ?_ _ | refine blk_drew ?_ | refine blk_alloc ?_ _)); exact BK179.out) hb); have n1_ := Aside0.mk (below_step (by repeat (first | (with_reducible first | exact HB.out | apply below_alloc | apply pw_below_drewN | apply below_drew1 | refine below_set ?_ GE179.out) | exact HB.out)) hb); clear BK179; clear HB; have BK179 := n0_; have HB := n1_; clear n0_ n1_; (try clear hb); (try clear hb2); (try clear hk); (try clear hi)) | ((with_reducible refine gate_callee (f := 33) rfl ?_); refine goesL_ (some 13) rfl rfl Try.func33 (by kernel_rfl) rfl #[.agg #[.int .i64 t181, .int .i64 t182, .int .i64 t183, .string t184, .string t185, .string t186]] rfl (by (try simp only [List.map_toArray, List.map_cons, List.map_nil]); first | done | rfl | (simp only [List.length_drop, List.length_take]; rfl)) ?_; (with_reducible refine (spec_CmdFault.calls k t181 t182 t183 t184 t185 t186 t187 _ A8.out).mono ?_); rintro e w17 ⟨rfl, hb⟩; refine ⟨_, rfl, ?_⟩; have n0_ := Aside0.mk (blk_below (g := gb179) (o := .cells #[.int .i64 a0_0, .int .i64 a0_1, .int .i64 a0_2, .string a0_3, .string a0_4, .string a0_5] 46 (0, 0)) (by (with_reducible repeat (first | refine blk_drewN ?_ _ | refine blk_drew ?_ | refine blk_alloc ?_ _)); exact BK179.out) hb); have n1_ := Aside0.mk (below_step (by repeat (first | (with_reducible first | exact HB.out | apply below_alloc | apply pw_below_drewN | apply below_drew1 | refine below_set ?_ GE179.out) | exact HB.out)) hb); clear BK179; clear HB; have BK179 := n0_; have HB := n1_; clear n0_ n1_; (try clear hb); (try clear hb2); (try clear hk); (try clear hi); have hcz18_0 : w17.cell? ⟨gb179, 0, none⟩ = some (.int .i64 a0_0) := (blk_cell BK179.out 0).trans rfl; have hcz18_1 : w17.cell? ⟨gb179, 1, none⟩ = some (.int .i64 a0_1) := (blk_cell BK179.out 1).trans rfl; have hcz18_2 : w17.cell? ⟨gb179, 2, none⟩ = some (.int .i64 a0_2) := (blk_cell BK179.out 2).trans rfl; have hcz18_3 : w17.cell? ⟨gb179, 3, none⟩ = some (.string a0_3) := (blk_cell BK179.out 3).trans rfl; have hcz18_4 : w17.cell? ⟨gb179, 4, none⟩ = some (.string a0_4) := (blk_cell BK179.out 4).trans rfl; have hcz18_5 : w17.cell? ⟨gb179, 5, none⟩ = some (.string a0_5) := (blk_cell BK179.out 5).trans rfl; have hfz18_0 := blk_frozen BK179.out 0; have hfz18_1 := blk_frozen BK179.out 1; have hfz18_2 := blk_frozen BK179.out 2; have hfz18_3 := blk_frozen BK179.out 3; have hfz18_4 := blk_frozen BK179.out 4; have hfz18_5 := blk_frozen BK179.out 5) | ((with_reducible refine gate_callee (f := 34) rfl ?_); refine goesL_ (some 15) rfl rfl Try.func34 (by kernel_rfl) rfl #[.agg #[.int .i64 a0_0, .int .i64 a0_1, .int .i64 a0_2, .string a0_3, .string a0_4, .string a0_5]] rfl (by (try simp only [List.map_toArray, List.map_cons, List.map_nil]); first | done | rfl | (simp only [List.length_drop, List.length_take]; rfl)) ?_; (with_reducible refine (laws_toCmd.calls a0_0 a0_1 a0_2 a0_3 a0_4 a0_5 t188 t189 t190 t191 t192 t193 _ A9.out).mono ?_); rintro e w19 ⟨rfl, hb⟩; refine ⟨_, rfl, ?_⟩; have n0_ := Aside0.mk (blk_below (g := gb179) (o := .cells #[.int .i64 a0_0, .int .i64 a0_1, .int .i64 a0_2, .string a0_3, .string a0_4, .string a0_5] 46 (0, 0)) (by (with_reducible repeat (first | refine blk_drewN ?_ _ | refine blk_drew ?_ | refine blk_alloc ?_ _)); exact BK179.out) hb); have n1_ := Aside0.mk (below_step (by repeat (first | (with_reducible first | exact HB.out | apply below_alloc | apply pw_below_drewN | apply below_drew1 | refine below_set ?_ GE179.out) | exact HB.out)) hb); clear BK179; clear HB; have BK179 := n0_; have HB := n1_; clear n0_ n1_; (try clear hb); (try clear hb2); (try clear hk); (try clear hi)) | ((with_reducible refine gate_callee (f := 35) rfl ?_); refine goesL_ (some 16) rfl rfl Try.func35 (by kernel_rfl) rfl #[.agg #[.int .i64 t188, .int .i64 t189, .int .i64 t190, .string t191, .string t192, .string t193]] rfl (by (try simp only [List.map_toArray, List.map_cons, List.map_nil]); first | done | rfl | (simp only [List.length_drop, List.length_take]; rfl)) ?_; (with_reducible refine (impl_CmdFault.calls k t188 t189 t190 t191 t192 t193 t194 _ A10.out).mono ?_); rintro e w20 ⟨rfl, hb⟩; refine ⟨_, rfl, ?_⟩; have n0_ := Aside0.mk (blk_below (g := gb179) (o := .cells #[.int .i64 a0_0, .int .i64 a0_1, .int .i64 a0_2, .string a0_3, .string a0_4, .string a0_5] 46 (0, 0)) (by (with_reducible repeat (first | refine blk_drewN ?_ _ | refine blk_drew ?_ | refine blk_alloc ?_ _)); exact BK179.out) hb); have n1_ := Aside0.mk (below_step (by repeat (first | (with_reducible first | exact HB.out | apply below_alloc | apply pw_below_drewN | apply below_drew1 | refine below_set ?_ GE179.out) | exact HB.out)) hb); clear BK179; clear HB; have BK179 := n0_; have HB := n1_; clear n0_ n1_; (try clear hb); (try clear hb2); (try clear hk); (try clear hi)))
      go_ret
      exact ⟨by first | rfl | (simp [errW_none, errW_some] <;> rfl) | (simp [*, errW_none, errW_some] <;> rfl), by repeat (first | (with_reducible first | exact HB.out | apply below_alloc | apply pw_below_drewN | apply below_drew1 | refine below_set ?_ GE179.out) | exact HB.out)⟩
    · rw [if_neg c11] at H
      exact absurd H (by simp)

/-- THE ONE PURE STATEMENT of laws_FnExactCmdFault: yours. -/
def laws_FnExactCmdFault.Pure : Prop := ∀ (a0_0 : Int) (a0_1 : Int) (a0_2 : Int) (a0_3 : ByteArray) (a0_4 : ByteArray) (a0_5 : ByteArray), (Lit.int .i64 a0_0).wf = true → (Lit.int .i64 a0_1).wf = true → (Lit.int .i64 a0_2).wf = true → a0_3.size ≤ maxLen → a0_4.size ≤ maxLen → a0_5.size ≤ maxLen → ∃ k, laws_FnExactCmdFault.f k a0_0 a0_1 a0_2 a0_3 a0_4 a0_5 = some true

/-! ### impl_modulo: function 54 -/
def impl_modulo.f (a0 : Int) (a1 : Int) : Option (Int) := if a1 = 0 then (none) else (some (Int.tmod (wrap64 ((Int.tmod a0 a1) + a1)) a1))
set_option maxHeartbeats 8000000 in
set_option maxRecDepth 100000 in
theorem impl_modulo.calls (a0 : Int) (a1 : Int) (r : Int) (w : World) (h : impl_modulo.f a0 a1 = some r) :
    Calls Try.prog 54 #[.int .i64 a0, .int .i64 a1] w fun e w' => e = .returned (.int .i64 r) ∧ Drawn0 w w' := by
  have H : (if a1 = 0 then (none) else (some (Int.tmod (wrap64 ((Int.tmod a0 a1) + a1)) a1))) = some r := h
  clear h
  by_cases c3 : a1 = 0
  · rw [if_pos c3] at H
    exact absurd H (by simp)
  · rw [if_neg c3] at H
    have c3b0 : (a1 == 0) = false := beq_eq_false_iff_ne.mpr c3
    have c3b1 : (a1 != 0) = true := bne_iff_ne.mpr c3
    obtain rfl := Option.some.inj H
    go_enter Try.func54, Try.ntmps54
    go_wp2
    go_ret
    exact ⟨by first | rfl | (simp; done) | (simp [*]; done), by repeat (first | exact Drawn0.refl _ | apply Drawn0.step)⟩

/-! ### impl_TimeoutOf: function 15 -/
def impl_TimeoutOf.f (a0 : Int) (a1 : Int) : Option (Int) := (impl_within.f a0 1 1000).bind fun t195 => (if t195 = true then ((impl_modulo.f a1 a0).bind fun t196 => (some (wrap64 (a0 + t196)))) else (some 0))
set_option maxHeartbeats 8000000 in
set_option maxRecDepth 100000 in
theorem impl_TimeoutOf.calls (a0 : Int) (a1 : Int) (r : Int) (w : World) (h : impl_TimeoutOf.f a0 a1 = some r) :
    Calls Try.prog 15 #[.int .i64 a0, .int .i64 a1] w fun e w' => e = .returned (.int .i64 r) ∧ Drawn0 w w' := by
  have H : ((impl_within.f a0 1 1000).bind fun t195 => (if t195 = true then ((impl_modulo.f a1 a0).bind fun t196 => (some (wrap64 (a0 + t196)))) else (some 0))) = some r := h
  clear h
  replace H := Option.bind_eq_some_iff.mp H
  obtain ⟨t195, A30, H⟩ := H
  replace H : (if t195 = true then ((impl_modulo.f a1 a0).bind fun t196 => (some (wrap64 (a0 + t196)))) else (some 0)) = some r := H
  have A3 := Aside0.mk A30
  clear A30
  by_cases c4 : t195 = true
  · subst c4
    have H1 : ((impl_modulo.f a1 a0).bind fun t196 => (some (wrap64 (a0 + t196)))) = some r := by rw [if_pos rfl] at H; exact H
    clear H
    have H := H1
    clear H1
    replace H := Option.bind_eq_some_iff.mp H
    obtain ⟨t196, A50, H⟩ := H
    replace H : (some (wrap64 (a0 + t196))) = some r := H
    have A5 := Aside0.mk A50
    clear A50
    obtain rfl := Option.some.inj H
    go_enter Try.func15, Try.ntmps15
    go_wp2_with (first | ((with_reducible refine gate_callee (f := 53) rfl ?_); refine goesL_ (some 6) rfl rfl Try.func53 (by kernel_rfl) rfl #[.int .i64 a0, .int .i64 1, .int .i64 1000] rfl (by (try simp only [List.map_toArray, List.map_cons, List.map_nil]); first | done | rfl | (simp only [List.length_drop, List.length_take]; rfl)) ?_; (with_reducible refine (impl_within.calls a0 1 1000 true _ A3.out).mono ?_); rintro e w' ⟨rfl, ⟨nd, rfl⟩⟩; refine ⟨_, rfl, ?_⟩) | ((with_reducible refine gate_callee (f := 54) rfl ?_); refine goesL_ (some 11) rfl rfl Try.func54 (by kernel_rfl) rfl #[.int .i64 a1, .int .i64 a0] rfl (by (try simp only [List.map_toArray, List.map_cons, List.map_nil]); first | done | rfl | (simp only [List.length_drop, List.length_take]; rfl)) ?_; (with_reducible refine (impl_modulo.calls a1 a0 t196 _ A5.out).mono ?_); rintro e w' ⟨rfl, ⟨nd, rfl⟩⟩; refine ⟨_, rfl, ?_⟩))
    go_ret
    exact ⟨by first | rfl | (simp; done) | (simp [*]; done), by repeat (first | exact Drawn0.refl _ | apply Drawn0.step)⟩
  · replace c4 := Bool.eq_false_iff.mpr c4
    subst c4
    have H1 : (some 0) = some r := by rw [if_neg (show ¬ (false = true) by decide)] at H; exact H
    clear H
    have H := H1
    clear H1
    obtain rfl := Option.some.inj H
    go_enter Try.func15, Try.ntmps15
    go_wp2_with (first | ((with_reducible refine gate_callee (f := 53) rfl ?_); refine goesL_ (some 6) rfl rfl Try.func53 (by kernel_rfl) rfl #[.int .i64 a0, .int .i64 1, .int .i64 1000] rfl (by (try simp only [List.map_toArray, List.map_cons, List.map_nil]); first | done | rfl | (simp only [List.length_drop, List.length_take]; rfl)) ?_; (with_reducible refine (impl_within.calls a0 1 1000 false _ A3.out).mono ?_); rintro e w' ⟨rfl, ⟨nd, rfl⟩⟩; refine ⟨_, rfl, ?_⟩))
    go_ret
    exact ⟨by first | rfl | (simp; done) | (simp [*]; done), by repeat (first | exact Drawn0.refl _ | apply Drawn0.step)⟩

/-! ### impl_SlotDraw: function 17 -/
def impl_SlotDraw.f (a0 : Int) (a1 : Int) (a2 : Int) (a3 : Int) : Option (Int) := (impl_within.f a0 1 1000).bind fun t197 => (if t197 = true then ((impl_sizeOk.f a1).bind fun t198 => (if t198 = true then ((impl_within.f a2 1 a1).bind fun t199 => (if t199 = true then ((impl_within.f a3 0 1099511627776).bind fun t200 => (if t200 = true then (if a1 = 0 then (none) else ((impl_modulo.f (wrap64 ((wrap64 ((wrap64 (a2 - 1)) * (wrap64 (Int.tdiv a0 a1)))) - a3)) a0).bind fun t201 => (some t201))) else (some 0))) else (some 0))) else (some 0))) else (some 0))
set_option maxHeartbeats 8000000 in
set_option maxRecDepth 100000 in
theorem impl_SlotDraw.calls (a0 : Int) (a1 : Int) (a2 : Int) (a3 : Int) (r : Int) (w : World) (h : impl_SlotDraw.f a0 a1 a2 a3 = some r) :
    Calls Try.prog 17 #[.int .i64 a0, .int .i64 a1, .int .i64 a2, .int .i64 a3] w fun e w' => e = .returned (.int .i64 r) ∧ Drawn0 w w' := by
  have H : ((impl_within.f a0 1 1000).bind fun t197 => (if t197 = true then ((impl_sizeOk.f a1).bind fun t198 => (if t198 = true then ((impl_within.f a2 1 a1).bind fun t199 => (if t199 = true then ((impl_within.f a3 0 1099511627776).bind fun t200 => (if t200 = true then (if a1 = 0 then (none) else ((impl_modulo.f (wrap64 ((wrap64 ((wrap64 (a2 - 1)) * (wrap64 (Int.tdiv a0 a1)))) - a3)) a0).bind fun t201 => (some t201))) else (some 0))) else (some 0))) else (some 0))) else (some 0))) = some r := h
  clear h
  replace H := Option.bind_eq_some_iff.mp H
  obtain ⟨t197, A50, H⟩ := H
  replace H : (if t197 = true then ((impl_sizeOk.f a1).bind fun t198 => (if t198 = true then ((impl_within.f a2 1 a1).bind fun t199 => (if t199 = true then ((impl_within.f a3 0 1099511627776).bind fun t200 => (if t200 = true then (if a1 = 0 then (none) else ((impl_modulo.f (wrap64 ((wrap64 ((wrap64 (a2 - 1)) * (wrap64 (Int.tdiv a0 a1)))) - a3)) a0).bind fun t201 => (some t201))) else (some 0))) else (some 0))) else (some 0))) else (some 0)) = some r := H
  have A5 := Aside0.mk A50
  clear A50
  by_cases c6 : t197 = true
  · subst c6
    have H1 : ((impl_sizeOk.f a1).bind fun t198 => (if t198 = true then ((impl_within.f a2 1 a1).bind fun t199 => (if t199 = true then ((impl_within.f a3 0 1099511627776).bind fun t200 => (if t200 = true then (if a1 = 0 then (none) else ((impl_modulo.f (wrap64 ((wrap64 ((wrap64 (a2 - 1)) * (wrap64 (Int.tdiv a0 a1)))) - a3)) a0).bind fun t201 => (some t201))) else (some 0))) else (some 0))) else (some 0))) = some r := by rw [if_pos rfl] at H; exact H
    clear H
    have H := H1
    clear H1
    replace H := Option.bind_eq_some_iff.mp H
    obtain ⟨t198, A70, H⟩ := H
    replace H : (if t198 = true then ((impl_within.f a2 1 a1).bind fun t199 => (if t199 = true then ((impl_within.f a3 0 1099511627776).bind fun t200 => (if t200 = true then (if a1 = 0 then (none) else ((impl_modulo.f (wrap64 ((wrap64 ((wrap64 (a2 - 1)) * (wrap64 (Int.tdiv a0 a1)))) - a3)) a0).bind fun t201 => (some t201))) else (some 0))) else (some 0))) else (some 0)) = some r := H
    have A7 := Aside0.mk A70
    clear A70
    by_cases c8 : t198 = true
    · subst c8
      have H1 : ((impl_within.f a2 1 a1).bind fun t199 => (if t199 = true then ((impl_within.f a3 0 1099511627776).bind fun t200 => (if t200 = true then (if a1 = 0 then (none) else ((impl_modulo.f (wrap64 ((wrap64 ((wrap64 (a2 - 1)) * (wrap64 (Int.tdiv a0 a1)))) - a3)) a0).bind fun t201 => (some t201))) else (some 0))) else (some 0))) = some r := by rw [if_pos rfl] at H; exact H
      clear H
      have H := H1
      clear H1
      replace H := Option.bind_eq_some_iff.mp H
      obtain ⟨t199, A90, H⟩ := H
      replace H : (if t199 = true then ((impl_within.f a3 0 1099511627776).bind fun t200 => (if t200 = true then (if a1 = 0 then (none) else ((impl_modulo.f (wrap64 ((wrap64 ((wrap64 (a2 - 1)) * (wrap64 (Int.tdiv a0 a1)))) - a3)) a0).bind fun t201 => (some t201))) else (some 0))) else (some 0)) = some r := H
      have A9 := Aside0.mk A90
      clear A90
      by_cases c10 : t199 = true
      · subst c10
        have H1 : ((impl_within.f a3 0 1099511627776).bind fun t200 => (if t200 = true then (if a1 = 0 then (none) else ((impl_modulo.f (wrap64 ((wrap64 ((wrap64 (a2 - 1)) * (wrap64 (Int.tdiv a0 a1)))) - a3)) a0).bind fun t201 => (some t201))) else (some 0))) = some r := by rw [if_pos rfl] at H; exact H
        clear H
        have H := H1
        clear H1
        replace H := Option.bind_eq_some_iff.mp H
        obtain ⟨t200, A110, H⟩ := H
        replace H : (if t200 = true then (if a1 = 0 then (none) else ((impl_modulo.f (wrap64 ((wrap64 ((wrap64 (a2 - 1)) * (wrap64 (Int.tdiv a0 a1)))) - a3)) a0).bind fun t201 => (some t201))) else (some 0)) = some r := H
        have A11 := Aside0.mk A110
        clear A110
        by_cases c12 : t200 = true
        · subst c12
          have H1 : (if a1 = 0 then (none) else ((impl_modulo.f (wrap64 ((wrap64 ((wrap64 (a2 - 1)) * (wrap64 (Int.tdiv a0 a1)))) - a3)) a0).bind fun t201 => (some t201))) = some r := by rw [if_pos rfl] at H; exact H
          clear H
          have H := H1
          clear H1
          by_cases c13 : a1 = 0
          · rw [if_pos c13] at H
            exact absurd H (by simp)
          · rw [if_neg c13] at H
            have c13b0 : (a1 == 0) = false := beq_eq_false_iff_ne.mpr c13
            have c13b1 : (a1 != 0) = true := bne_iff_ne.mpr c13
            replace H := Option.bind_eq_some_iff.mp H
            obtain ⟨t201, A140, H⟩ := H
            replace H : (some t201) = some r := H
            have A14 := Aside0.mk A140
            clear A140
            obtain rfl := Option.some.inj H
            go_enter Try.func17, Try.ntmps17
            go_wp2_with (first | ((with_reducible refine gate_callee (f := 53) rfl ?_); refine goesL_ (some 10) rfl rfl Try.func53 (by kernel_rfl) rfl #[.int .i64 a0, .int .i64 1, .int .i64 1000] rfl (by (try simp only [List.map_toArray, List.map_cons, List.map_nil]); first | done | rfl | (simp only [List.length_drop, List.length_take]; rfl)) ?_; (with_reducible refine (impl_within.calls a0 1 1000 true _ A5.out).mono ?_); rintro e w' ⟨rfl, ⟨nd, rfl⟩⟩; refine ⟨_, rfl, ?_⟩) | (go_at_call 56; (with_reducible refine (impl_sizeOk.calls a1 true _ A7.out).mono ?_); rintro e w' ⟨rfl, ⟨nd, rfl⟩⟩) | (go_at_call 53; (with_reducible refine (impl_within.calls a2 1 a1 true _ A9.out).mono ?_); rintro e w' ⟨rfl, ⟨nd, rfl⟩⟩) | (go_at_call 53; (with_reducible refine (impl_within.calls a3 0 1099511627776 true _ A11.out).mono ?_); rintro e w' ⟨rfl, ⟨nd, rfl⟩⟩) | ((with_reducible refine gate_callee (f := 54) rfl ?_); refine goesL_ (some 37) rfl rfl Try.func54 (by kernel_rfl) rfl #[.int .i64 (wrap64 ((wrap64 ((wrap64 (a2 - 1)) * (wrap64 (Int.tdiv a0 a1)))) - a3)), .int .i64 a0] rfl (by (try simp only [List.map_toArray, List.map_cons, List.map_nil]); first | done | rfl | (simp only [List.length_drop, List.length_take]; rfl)) ?_; (with_reducible refine (impl_modulo.calls (wrap64 ((wrap64 ((wrap64 (a2 - 1)) * (wrap64 (Int.tdiv a0 a1)))) - a3)) a0 t201 _ A14.out).mono ?_); rintro e w' ⟨rfl, ⟨nd, rfl⟩⟩; refine ⟨_, rfl, ?_⟩))
            go_ret
            exact ⟨by first | rfl | (simp; done) | (simp [*]; done), by repeat (first | exact Drawn0.refl _ | apply Drawn0.step)⟩
        · replace c12 := Bool.eq_false_iff.mpr c12
          subst c12
          have H1 : (some 0) = some r := by rw [if_neg (show ¬ (false = true) by decide)] at H; exact H
          clear H
          have H := H1
          clear H1
          obtain rfl := Option.some.inj H
          go_enter Try.func17, Try.ntmps17
          go_wp2_with (first | ((with_reducible refine gate_callee (f := 53) rfl ?_); refine goesL_ (some 10) rfl rfl Try.func53 (by kernel_rfl) rfl #[.int .i64 a0, .int .i64 1, .int .i64 1000] rfl (by (try simp only [List.map_toArray, List.map_cons, List.map_nil]); first | done | rfl | (simp only [List.length_drop, List.length_take]; rfl)) ?_; (with_reducible refine (impl_within.calls a0 1 1000 true _ A5.out).mono ?_); rintro e w' ⟨rfl, ⟨nd, rfl⟩⟩; refine ⟨_, rfl, ?_⟩) | (go_at_call 56; (with_reducible refine (impl_sizeOk.calls a1 true _ A7.out).mono ?_); rintro e w' ⟨rfl, ⟨nd, rfl⟩⟩) | (go_at_call 53; (with_reducible refine (impl_within.calls a2 1 a1 true _ A9.out).mono ?_); rintro e w' ⟨rfl, ⟨nd, rfl⟩⟩) | (go_at_call 53; (with_reducible refine (impl_within.calls a3 0 1099511627776 false _ A11.out).mono ?_); rintro e w' ⟨rfl, ⟨nd, rfl⟩⟩))
          go_ret
          exact ⟨by first | rfl | (simp; done) | (simp [*]; done), by repeat (first | exact Drawn0.refl _ | apply Drawn0.step)⟩
      · replace c10 := Bool.eq_false_iff.mpr c10
        subst c10
        have H1 : (some 0) = some r := by rw [if_neg (show ¬ (false = true) by decide)] at H; exact H
        clear H
        have H := H1
        clear H1
        obtain rfl := Option.some.inj H
        go_enter Try.func17, Try.ntmps17
        go_wp2_with (first | ((with_reducible refine gate_callee (f := 53) rfl ?_); refine goesL_ (some 10) rfl rfl Try.func53 (by kernel_rfl) rfl #[.int .i64 a0, .int .i64 1, .int .i64 1000] rfl (by (try simp only [List.map_toArray, List.map_cons, List.map_nil]); first | done | rfl | (simp only [List.length_drop, List.length_take]; rfl)) ?_; (with_reducible refine (impl_within.calls a0 1 1000 true _ A5.out).mono ?_); rintro e w' ⟨rfl, ⟨nd, rfl⟩⟩; refine ⟨_, rfl, ?_⟩) | (go_at_call 56; (with_reducible refine (impl_sizeOk.calls a1 true _ A7.out).mono ?_); rintro e w' ⟨rfl, ⟨nd, rfl⟩⟩) | (go_at_call 53; (with_reducible refine (impl_within.calls a2 1 a1 false _ A9.out).mono ?_); rintro e w' ⟨rfl, ⟨nd, rfl⟩⟩))
        go_ret
        exact ⟨by first | rfl | (simp; done) | (simp [*]; done), by repeat (first | exact Drawn0.refl _ | apply Drawn0.step)⟩
    · replace c8 := Bool.eq_false_iff.mpr c8
      subst c8
      have H1 : (some 0) = some r := by rw [if_neg (show ¬ (false = true) by decide)] at H; exact H
      clear H
      have H := H1
      clear H1
      obtain rfl := Option.some.inj H
      go_enter Try.func17, Try.ntmps17
      go_wp2_with (first | ((with_reducible refine gate_callee (f := 53) rfl ?_); refine goesL_ (some 10) rfl rfl Try.func53 (by kernel_rfl) rfl #[.int .i64 a0, .int .i64 1, .int .i64 1000] rfl (by (try simp only [List.map_toArray, List.map_cons, List.map_nil]); first | done | rfl | (simp only [List.length_drop, List.length_take]; rfl)) ?_; (with_reducible refine (impl_within.calls a0 1 1000 true _ A5.out).mono ?_); rintro e w' ⟨rfl, ⟨nd, rfl⟩⟩; refine ⟨_, rfl, ?_⟩) | (go_at_call 56; (with_reducible refine (impl_sizeOk.calls a1 false _ A7.out).mono ?_); rintro e w' ⟨rfl, ⟨nd, rfl⟩⟩))
      go_ret
      exact ⟨by first | rfl | (simp; done) | (simp [*]; done), by repeat (first | exact Drawn0.refl _ | apply Drawn0.step)⟩
  · replace c6 := Bool.eq_false_iff.mpr c6
    subst c6
    have H1 : (some 0) = some r := by rw [if_neg (show ¬ (false = true) by decide)] at H; exact H
    clear H
    have H := H1
    clear H1
    obtain rfl := Option.some.inj H
    go_enter Try.func17, Try.ntmps17
    go_wp2_with (first | ((with_reducible refine gate_callee (f := 53) rfl ?_); refine goesL_ (some 10) rfl rfl Try.func53 (by kernel_rfl) rfl #[.int .i64 a0, .int .i64 1, .int .i64 1000] rfl (by (try simp only [List.map_toArray, List.map_cons, List.map_nil]); first | done | rfl | (simp only [List.length_drop, List.length_take]; rfl)) ?_; (with_reducible refine (impl_within.calls a0 1 1000 false _ A5.out).mono ?_); rintro e w' ⟨rfl, ⟨nd, rfl⟩⟩; refine ⟨_, rfl, ?_⟩))
    go_ret
    exact ⟨by first | rfl | (simp; done) | (simp [*]; done), by repeat (first | exact Drawn0.refl _ | apply Drawn0.step)⟩

/-- A state of type 72 at block g of W; what its slices lead to came in by w0. -/
def IsS72 (w0 W : World) (g : Nat) (f0 : List Int) (f1 : Int) : Prop := ∃ A0 c0, W.heap[g]? = some (.cells #[.slice A0 f0.length c0, .int .i64 f1] 72 (0, 0)) ∧ w0.heap.size ≤ g ∧ Kd.C (Kd.int .u8) w0 A0 f0.length f0
theorem IsS72.grown {w0 W : World} {g : Nat} {f0 : List Int} {f1 : Int} {W1 : World} {row : Option Nat} (h : IsS72 w0 W g f0 f1) (hw : W.grownBy W1 row) (hne : some g ≠ row) : IsS72 w0 W1 g f0 f1 := by
  obtain ⟨A0, c0, hb, hg, hr0⟩ := h
  exact ⟨A0, c0, blk_grown hb hw hne, hg, hr0⟩
theorem IsS72.own_neN {w0 W : World} {g : Nat} {f0 : List Int} {f1 : Int} {α : Type} {d : Kd α} {e : Nat} {base : Nat} {ok : Nat → Prop} {v : Value} {xs : List α} (h : IsS72 w0 W g f0 f1) (ho : Kd.N d e W base ok v xs) (ht : e ≠ 72) : some g ≠ v.ownBlock := by
  obtain ⟨A0, c0, hb, hg, hr0⟩ := h
  exact Kd.N_ne ho hb ht
theorem IsS72.fresh {w0 W : World} {g : Nat} {f0 : List Int} {f1 : Int} (h : IsS72 w0 W g f0 f1) : ∀ k, W.heap.size ≤ k → k ≠ g := by
  obtain ⟨A0, c0, hb, hg, hr0⟩ := h
  exact Kd.freshB hb
theorem IsS72.kept {w0 W : World} {g : Nat} {f0 : List Int} {f1 : Int} {W1 : World} {S : Nat → Prop} (h : IsS72 w0 W g f0 f1) (hk : Kept W W1 S) (hne : ¬ S g) : IsS72 w0 W1 g f0 f1 := by
  obtain ⟨A0, c0, hb, hg, hr0⟩ := h
  exact ⟨A0, c0, blk_kept hb hk hne, hg, hr0⟩
theorem IsS72.below {w0 W : World} {g : Nat} {f0 : List Int} {f1 : Int} {W1 : World} (h : IsS72 w0 W g f0 f1) (hw : Below W.heap.size W W1) : IsS72 w0 W1 g f0 f1 := h.grown (grown_of_below hw none) (by simp)
theorem IsS72.alloc {w0 W : World} {g : Nat} {f0 : List Int} {f1 : Int} (h : IsS72 w0 W g f0 f1) (o : Obj) : IsS72 w0 (W.alloc o) g f0 f1 := h.below (below_alloc (Below.refl _ _) o)
theorem IsS72.drewN {w0 W : World} {g : Nat} {f0 : List Int} {f1 : Int} (h : IsS72 w0 W g f0 f1) (m : Nat) : IsS72 w0 (W.drewN m) g f0 f1 := h
theorem IsS72.drew {w0 W : World} {g : Nat} {f0 : List Int} {f1 : Int} (h : IsS72 w0 W g f0 f1) : IsS72 w0 W.drew g f0 f1 := h
theorem IsS72.at_ {w0 W : World} {g : Nat} {f0 : List Int} {f1 : Int} {w' : World} {m : Nat} (hq : W.drewN m = w') (h : IsS72 w0 W g f0 f1) : IsS72 w0 w' g f0 f1 := by subst hq; exact IsS72.drewN h m
theorem IsS72.apart {w0 W : World} {g : Nat} {f0 : List Int} {f1 : Int} {α : Type} {d : Kd α} {e : Nat} {base : Nat} {ok : Nat → Prop} {v : Value} {xs : List α} (h : IsS72 w0 W g f0 f1) (ho : d.R e W base ok v xs) (ht : ∀ q, q ∈ e :: d.E → q ≠ 72) : d.R e W base (fun k => ok k ∧ k ≠ g) v xs := by
  obtain ⟨A0, c0, hb, hg, hr0⟩ := h
  exact Kd.R_types ho hb ht
theorem IsS72.own_ne {w0 W : World} {g : Nat} {f0 : List Int} {f1 : Int} {α : Type} {d : Kd α} {e : Nat} {base : Nat} {ok : Nat → Prop} {v : Value} {xs : List α} (h : IsS72 w0 W g f0 f1) (ho : d.R e W base ok v xs) (ht : e ≠ 72) : some g ≠ v.ownBlock := by
  obtain ⟨A0, c0, hb, hg, hr0⟩ := h
  exact Kd.R_ne ho hb ht
theorem IsS72.apartQ {w0 W : World} {g : Nat} {f0 : List Int} {f1 : Int} {α : Type} {d : Kd α} {e : Nat} {base : Nat} {ok : Nat → Prop} {v : Value} {xs : List α} (h : IsS72 w0 W g f0 f1) (ho : d.Q e W base ok v xs) (ht : ∀ q, q ∈ e :: d.E → q ≠ 72) : d.Q e W base (fun k => ok k ∧ k ≠ g) v xs := by
  obtain ⟨A0, c0, hb, hg, hr0⟩ := h
  exact Kd.Q_types ho hb ht
theorem IsS72.own_neQ {w0 W : World} {g : Nat} {f0 : List Int} {f1 : Int} {α : Type} {d : Kd α} {e : Nat} {base : Nat} {ok : Nat → Prop} {v : Value} {xs : List α} (h : IsS72 w0 W g f0 f1) (ho : d.Q e W base ok v xs) (ht : e ≠ 72) : some g ≠ v.ownBlock := by
  obtain ⟨A0, c0, hb, hg, hr0⟩ := h
  exact Kd.Q_ne ho hb ht
theorem IsS72.apartS {w0 W : World} {g : Nat} {f0 : List Int} {f1 : Int} {α : Type} {d : Kd α} {e : Nat} {base : Nat} {ok : Nat → Prop} {v : Value} {xs : List α} (h : IsS72 w0 W g f0 f1) (ho : d.S e W base ok v xs) (ht : ∀ q, q ∈ e :: d.E → q ≠ 72) : d.S e W base (fun k => ok k ∧ k ≠ g) v xs := by
  obtain ⟨A0, c0, hb, hg, hr0⟩ := h
  exact Kd.S_types ho hb ht
theorem IsS72.own_neS {w0 W : World} {g : Nat} {f0 : List Int} {f1 : Int} {α : Type} {d : Kd α} {e : Nat} {base : Nat} {ok : Nat → Prop} {v : Value} {xs : List α} (h : IsS72 w0 W g f0 f1) (ho : d.S e W base ok v xs) (ht : e ≠ 72) : some g ≠ v.ownBlock := by
  obtain ⟨A0, c0, hb, hg, hr0⟩ := h
  exact Kd.S_ne ho hb ht
theorem IsS72.lt {w0 W : World} {g : Nat} {f0 : List Int} {f1 : Int} (h : IsS72 w0 W g f0 f1) : g < W.heap.size := by
  obtain ⟨A0, c0, hb, hg, hr0⟩ := h
  exact blk_lt hb
theorem IsS72.ge {w0 W : World} {g : Nat} {f0 : List Int} {f1 : Int} (h : IsS72 w0 W g f0 f1) : w0.heap.size ≤ g := by
  obtain ⟨A0, c0, hb, hg, hr0⟩ := h
  exact hg
theorem IsS72.ne_blk {w0 W : World} {g : Nat} {f0 : List Int} {f1 : Int} {a : Nat} {cs : Array Value} {t : TypeId} {fr : Nat × Nat} (h : IsS72 w0 W g f0 f1) (hb2 : W.heap[a]? = some (.cells cs t fr)) (ht : t ≠ 72) : g ≠ a := by
  obtain ⟨A0, c0, hb, hg, hr0⟩ := h
  rintro rfl
  rw [hb] at hb2
  injection hb2 with hb2
  injection hb2 with _ ht2
  exact ht ht2.symm
theorem IsS72.far {w0 W : World} {g : Nat} {f0 : List Int} {f1 : Int} {p : Addr} (h : IsS72 w0 W g f0 f1) (hne : g ≠ p.block) (u : Value) : IsS72 w0 (W.setCell p u) g f0 f1 := by
  obtain ⟨A0, c0, hb, hg, hr0⟩ := h
  exact ⟨A0, c0, blk_far hb hne u, hg, hr0⟩
theorem cellS72_0 {W : World} {g : Nat} {A0 : Option Addr} {c0 : Nat} {f0 : List Int} {f1 : Int} (h : W.heap[g]? = some (.cells #[.slice A0 f0.length c0, .int .i64 f1] 72 (0, 0))) : W.cell? ⟨g, 0, none⟩ = some (.slice A0 f0.length c0) := (blk_cell h 0).trans rfl
theorem cellS72_1 {W : World} {g : Nat} {A0 : Option Addr} {c0 : Nat} {f0 : List Int} {f1 : Int} (h : W.heap[g]? = some (.cells #[.slice A0 f0.length c0, .int .i64 f1] 72 (0, 0))) : W.cell? ⟨g, 1, none⟩ = some (.int .i64 f1) := (blk_cell h 1).trans rfl
theorem IsS72.set_1 {w0 W : World} {g : Nat} {f0 : List Int} {f1 : Int} (h : IsS72 w0 W g f0 f1) (x : Int) : IsS72 w0 (W.setCell ⟨g, 1, none⟩ (.int .i64 x)) g f0 x := by
  obtain ⟨A0, c0, hb, hg, hr0⟩ := h
  exact ⟨A0, c0, by simpa using blk_set hb 1 (.int .i64 x), hg, hr0⟩
theorem IsS72.new (w0 W : World) (A0 : Option Addr) (c0 : Nat) (f0 : List Int) (f1 : Int) (hB : Below w0.heap.size w0 W) (hr0 : Kd.C (Kd.int .u8) w0 A0 f0.length f0) : IsS72 w0 (W.alloc (.cells #[.slice A0 f0.length c0, .int .i64 f1] 72)) W.heap.size f0 f1 := ⟨A0, c0, by simpa using heap_alloc_new W _, hB.size, hr0⟩

/-! ### spec_l1next: function 71 -/
def spec_l1next.f (s0_0 : List Int) (s0_1 : Int) : Option (Int × Int) := if s0_1 < (s0_0.length : Int) then (if 0 ≤ s0_1 then (some (wrap64 (rd s0_0 s0_1), wrap64 (s0_1 + 1))) else (none)) else (some (Int.tmod (wrap64 ((wrap64 ((wrap64 (s0_1 * 167)) + (wrap64 ((wrap64 (Int.tdiv s0_1 3)) * 41)))) + (wrap64 ((s0_0.length : Int) * 29)))) 256, wrap64 (s0_1 + 1)))
set_option maxHeartbeats 8000000 in
set_option maxRecDepth 100000 in
theorem spec_l1next.calls (g : Nat) (s0_0 : List Int) (s0_1 : Int) (r1 : Int) (r2 : Int) (w0 w : World) (hI : IsS72 w0 w g s0_0 s0_1) (hB : Below w0.heap.size w0 w) (h : spec_l1next.f s0_0 s0_1 = some (r1, r2)) :
    Calls Try.prog 71 #[.pointer (some ⟨g, 0, none⟩)] w fun e w' => e = .returned (.int .i64 r1) ∧ IsS72 w0 w' g s0_0 r2 ∧ Below w0.heap.size w0 w' ∧ KeepBut w w' g none := by
  have HI0 := Aside0.mk hI
  have HK := Aside0.mk (KeepBut.refl w g none)
  have HL := Aside0.mk hB.size
  clear hI
  have HW0 := Aside0.mk hB.size
  have HB := Aside0.mk hB
  clear hB
  have H : (if s0_1 < (s0_0.length : Int) then (if 0 ≤ s0_1 then (some (wrap64 (rd s0_0 s0_1), wrap64 (s0_1 + 1))) else (none)) else (some (Int.tmod (wrap64 ((wrap64 ((wrap64 (s0_1 * 167)) + (wrap64 ((wrap64 (Int.tdiv s0_1 3)) * 41)))) + (wrap64 ((s0_0.length : Int) * 29)))) 256, wrap64 (s0_1 + 1)))) = some (r1, r2) := h
  clear h
  by_cases c2 : s0_1 < (s0_0.length : Int)
  · rw [if_pos c2] at H
    have c2b0 : decide (s0_1 < (s0_0.length : Int)) = true := decide_eq_true c2
    clear c2
    by_cases c3 : 0 ≤ s0_1
    · rw [if_pos c3] at H
      have c3b0 : decide (0 ≤ s0_1) = true := decide_eq_true c3
      clear c3
      simp only [Option.some.injEq, Prod.mk.injEq] at H
      obtain ⟨rfl, rfl⟩ := H
      obtain ⟨ASz4_0, cSz4_0, HGz4, hgz4, HSz4_0⟩ := HI0.out
      have hcz4_0 := cellS72_0 HGz4
      have hcz4_1 := cellS72_1 HGz4
      have hfz4_1 := blk_frozen HGz4 1
      clear HGz4 hgz4
      have p202 : 0 ≤ (s0_1 : Int) := of_decide_eq_true (by first | (with_reducible assumption) | assumption)
      have q202 : s0_1 < (s0_0.length : Int) := of_decide_eq_true (by first | (with_reducible assumption) | assumption)
      obtain ⟨ad202, e202, hx202_0⟩ := Kd.at_int HSz4_0 s0_1 p202 q202
      cases e202
      replace hx202_0 := pw_cell_below HB.out hx202_0
      replace p202 := eq_true p202
      replace q202 := eq_true q202
      go_enter Try.func71, Try.ntmps71
      go_wp2
      repeat (go_quiet (fail); try go_wp2)
      go_ret
      exact ⟨by first | rfl | (simp [errW_none, errW_some] <;> rfl) | (simp [*, errW_none, errW_some] <;> rfl), by repeat (first | (with_reducible first | exact HI0.out | apply IsS72.alloc | apply IsS72.drewN | apply IsS72.drew | apply IsS72.set_1) | exact HI0.out), by repeat (first | (with_reducible first | exact HB.out | apply below_alloc | apply pw_below_drewN | apply below_drew1 | refine below_set ?_ (IsS72.ge HI0.out)) | exact HB.out), by repeat (first | (with_reducible first | exact HK.out | apply KeepBut.set_ | apply keep_drewN | apply keep_drew | apply keep_alloc) | exact HK.out)⟩
    · rw [if_neg c3] at H
      exact absurd H (by simp)
  · rw [if_neg c2] at H
    have c2b0 : decide (s0_1 < (s0_0.length : Int)) = false := decide_eq_false c2
    clear c2
    simp only [Option.some.injEq, Prod.mk.injEq] at H
    obtain ⟨rfl, rfl⟩ := H
    obtain ⟨ASz5_0, cSz5_0, HGz5, hgz5, HSz5_0⟩ := HI0.out
    have hcz5_0 := cellS72_0 HGz5
    have hcz5_1 := cellS72_1 HGz5
    have hfz5_1 := blk_frozen HGz5 1
    clear HGz5 hgz5
    go_enter Try.func71, Try.ntmps71
    go_wp2
    repeat (go_quiet (fail); try go_wp2)
    go_ret
    exact ⟨by first | rfl | (simp [errW_none, errW_some] <;> rfl) | (simp [*, errW_none, errW_some] <;> rfl), by repeat (first | (with_reducible first | exact HI0.out | apply IsS72.alloc | apply IsS72.drewN | apply IsS72.drew | apply IsS72.set_1) | exact HI0.out), by repeat (first | (with_reducible first | exact HB.out | apply below_alloc | apply pw_below_drewN | apply below_drew1 | refine below_set ?_ (IsS72.ge HI0.out)) | exact HB.out), by repeat (first | (with_reducible first | exact HK.out | apply KeepBut.set_ | apply keep_drewN | apply keep_drew | apply keep_alloc) | exact HK.out)⟩

end Go.Proofs.Ytmiocbonmknioaa.P
