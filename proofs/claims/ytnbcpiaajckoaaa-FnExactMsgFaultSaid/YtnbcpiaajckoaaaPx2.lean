-- WRITTEN by a turned copy of the kit's print program (wip/bin/mkprint.py of this work): Lean checks it.
import Derived.Test.YtnbcpiaajckoaaaPx0
namespace Go.Proofs.Ytnbcpiaajckoaaa.P
open Go.RowKit Go.Proofs.YtnbcpiaajckoaaaW.PrintWords Go.Proofs.YtnbcpiaajckoaaaW.PrintLast Go.Proofs.YtnbcpiaajckoaaaW.PrintMore
attribute [local go_sem] max2_int min2_int max_two min_two max_three min_three max_four min_four   -- for this text's walks alone
set_option linter.unusedVariables false
set_option linter.unusedSimpArgs false

/-! ### spec_CmdFault: function 44 -/
mutual
def spec_CmdFault.j0 : Nat → Bool → Int → Int → Int → ByteArray → ByteArray → ByteArray → Option (Int)
  | 0, _, _, _, _, _, _, _ => none
  | k + 1, x12, x109000, x109001, x109002, x109003, x109004, x109005 => if x12 = true then (some 1) else (if x109002 = 0 then (if x109000 = 0 then (if x109001 = 0 then (if (x109003.size : Int) = 0 then (if (x109004.size : Int) = 0 then (if (x109005.size : Int) = 0 then (some 0) else (some 6)) else (some 5)) else (some 4)) else (some 3)) else (some 2)) else (if x109000 < 1 then (spec_CmdFault.j1 k true x109000 x109001 x109002 x109003 x109004 x109005) else (spec_CmdFault.j1 k (decide (x109000 > 8)) x109000 x109001 x109002 x109003 x109004 x109005)))
def spec_CmdFault.j1 : Nat → Bool → Int → Int → Int → ByteArray → ByteArray → ByteArray → Option (Int)
  | 0, _, _, _, _, _, _, _ => none
  | k + 1, x41, x109000, x109001, x109002, x109003, x109004, x109005 => if x41 = true then (some 2) else (if x109001 < 1 then (spec_CmdFault.j2 k true x109000 x109001 x109002 x109003 x109004 x109005) else (spec_CmdFault.j2 k (decide (x109001 > 1073741824)) x109000 x109001 x109002 x109003 x109004 x109005))
def spec_CmdFault.j2 : Nat → Bool → Int → Int → Int → ByteArray → ByteArray → ByteArray → Option (Int)
  | 0, _, _, _, _, _, _, _ => none
  | k + 1, x49, x109000, x109001, x109002, x109003, x109004, x109005 => if x49 = true then (some 3) else (if (x109003.size : Int) < 1 then (spec_CmdFault.j3 k true x109000 x109001 x109002 x109003 x109004 x109005) else (spec_CmdFault.j3 k (decide ((x109003.size : Int) > 64)) x109000 x109001 x109002 x109003 x109004 x109005))
def spec_CmdFault.j3 : Nat → Bool → Int → Int → Int → ByteArray → ByteArray → ByteArray → Option (Int)
  | 0, _, _, _, _, _, _, _ => none
  | k + 1, x59, x109000, x109001, x109002, x109003, x109004, x109005 => if x59 = true then (some 4) else (if x109002 = 2 then (spec_CmdFault.j4 k 0 0 true x109000 x109001 x109002 x109003 x109004 x109005) else (spec_CmdFault.j4 k 0 0 (x109002 == 4) x109000 x109001 x109002 x109003 x109004 x109005))
def spec_CmdFault.j4 : Nat → Int → Int → Bool → Int → Int → Int → ByteArray → ByteArray → ByteArray → Option (Int)
  | 0, _, _, _, _, _, _, _, _, _ => none
  | k + 1, x3, x4, x67, x109000, x109001, x109002, x109003, x109004, x109005 => if x67 = true then (spec_CmdFault.j5 k 64 x4 x109000 x109001 x109002 x109003 x109004 x109005) else (spec_CmdFault.j5 k x3 x4 x109000 x109001 x109002 x109003 x109004 x109005)
def spec_CmdFault.j5 : Nat → Int → Int → Int → Int → Int → ByteArray → ByteArray → ByteArray → Option (Int)
  | 0, _, _, _, _, _, _, _, _ => none
  | k + 1, x3, x4, x109000, x109001, x109002, x109003, x109004, x109005 => if x109002 = 4 then (spec_CmdFault.j6 k x3 64 x109000 x109001 x109002 x109003 x109004 x109005) else (spec_CmdFault.j6 k x3 x4 x109000 x109001 x109002 x109003 x109004 x109005)
def spec_CmdFault.j6 : Nat → Int → Int → Int → Int → Int → ByteArray → ByteArray → ByteArray → Option (Int)
  | 0, _, _, _, _, _, _, _, _ => none
  | k + 1, x3, x4, x109000, x109001, x109002, x109003, x109004, x109005 => if (x109004.size : Int) > x3 then (some 5) else (if (x109005.size : Int) > x4 then (some 6) else (some 0))
end
def spec_CmdFault.f (k : Nat) (a0_0 : Int) (a0_1 : Int) (a0_2 : Int) (a0_3 : ByteArray) (a0_4 : ByteArray) (a0_5 : ByteArray) : Option (Int) := if a0_2 < 0 then (spec_CmdFault.j0 k true a0_0 a0_1 a0_2 a0_3 a0_4 a0_5) else (spec_CmdFault.j0 k (decide (a0_2 > 4)) a0_0 a0_1 a0_2 a0_3 a0_4 a0_5)
theorem spec_CmdFault.mono_l : ∀ k, (∀ y0 y1 y2 y3 y4 y5 y6, LeO (spec_CmdFault.j0 k y0 y1 y2 y3 y4 y5 y6) (spec_CmdFault.j0 (k + 1) y0 y1 y2 y3 y4 y5 y6)) ∧ (∀ y0 y1 y2 y3 y4 y5 y6, LeO (spec_CmdFault.j1 k y0 y1 y2 y3 y4 y5 y6) (spec_CmdFault.j1 (k + 1) y0 y1 y2 y3 y4 y5 y6)) ∧ (∀ y0 y1 y2 y3 y4 y5 y6, LeO (spec_CmdFault.j2 k y0 y1 y2 y3 y4 y5 y6) (spec_CmdFault.j2 (k + 1) y0 y1 y2 y3 y4 y5 y6)) ∧ (∀ y0 y1 y2 y3 y4 y5 y6, LeO (spec_CmdFault.j3 k y0 y1 y2 y3 y4 y5 y6) (spec_CmdFault.j3 (k + 1) y0 y1 y2 y3 y4 y5 y6)) ∧ (∀ y0 y1 y2 y3 y4 y5 y6 y7 y8, LeO (spec_CmdFault.j4 k y0 y1 y2 y3 y4 y5 y6 y7 y8) (spec_CmdFault.j4 (k + 1) y0 y1 y2 y3 y4 y5 y6 y7 y8)) ∧ (∀ y0 y1 y2 y3 y4 y5 y6 y7, LeO (spec_CmdFault.j5 k y0 y1 y2 y3 y4 y5 y6 y7) (spec_CmdFault.j5 (k + 1) y0 y1 y2 y3 y4 y5 y6 y7)) ∧ (∀ y0 y1 y2 y3 y4 y5 y6 y7, LeO (spec_CmdFault.j6 k y0 y1 y2 y3 y4 y5 y6 y7) (spec_CmdFault.j6 (k + 1) y0 y1 y2 y3 y4 y5 y6 y7))
  | 0 => ⟨fun _ _ _ _ _ _ _ r h => by simp [spec_CmdFault.j0] at h, fun _ _ _ _ _ _ _ r h => by simp [spec_CmdFault.j1] at h, fun _ _ _ _ _ _ _ r h => by simp [spec_CmdFault.j2] at h, fun _ _ _ _ _ _ _ r h => by simp [spec_CmdFault.j3] at h, fun _ _ _ _ _ _ _ _ _ r h => by simp [spec_CmdFault.j4] at h, fun _ _ _ _ _ _ _ _ r h => by simp [spec_CmdFault.j5] at h, fun _ _ _ _ _ _ _ _ r h => by simp [spec_CmdFault.j6] at h⟩
  | k + 1 => by
    obtain ⟨ih0, ih1, ih2, ih3, ih4, ih5, ih6⟩ := spec_CmdFault.mono_l k
    refine ⟨?_, ?_, ?_, ?_, ?_, ?_, ?_⟩
    · intro y0 y1 y2 y3 y4 y5 y6
      unfold spec_CmdFault.j0
      repeat' first
      | (with_reducible exact ih0 _ _ _ _ _ _ _)
      | (with_reducible exact ih1 _ _ _ _ _ _ _)
      | (with_reducible exact ih2 _ _ _ _ _ _ _)
      | (with_reducible exact ih3 _ _ _ _ _ _ _)
      | (with_reducible exact ih4 _ _ _ _ _ _ _ _ _)
      | (with_reducible exact ih5 _ _ _ _ _ _ _ _)
      | (with_reducible exact ih6 _ _ _ _ _ _ _ _)
      | (with_reducible exact LeO.refl _)
      | (with_reducible exact LeO.none _)
      | (with_reducible refine LeO.ite ?_ ?_)
      | (with_reducible refine LeO.bind ?_ (fun _ => ?_))
      | exact ih0 _ _ _ _ _ _ _
      | exact ih1 _ _ _ _ _ _ _
      | exact ih2 _ _ _ _ _ _ _
      | exact ih3 _ _ _ _ _ _ _
      | exact ih4 _ _ _ _ _ _ _ _ _
      | exact ih5 _ _ _ _ _ _ _ _
      | exact ih6 _ _ _ _ _ _ _ _
      | exact LeO.none _
      | refine LeO.ite ?_ ?_
      | refine LeO.bind ?_ (fun _ => ?_)
    · intro y0 y1 y2 y3 y4 y5 y6
      unfold spec_CmdFault.j1
      repeat' first
      | (with_reducible exact ih0 _ _ _ _ _ _ _)
      | (with_reducible exact ih1 _ _ _ _ _ _ _)
      | (with_reducible exact ih2 _ _ _ _ _ _ _)
      | (with_reducible exact ih3 _ _ _ _ _ _ _)
      | (with_reducible exact ih4 _ _ _ _ _ _ _ _ _)
      | (with_reducible exact ih5 _ _ _ _ _ _ _ _)
      | (with_reducible exact ih6 _ _ _ _ _ _ _ _)
      | (with_reducible exact LeO.refl _)
      | (with_reducible exact LeO.none _)
      | (with_reducible refine LeO.ite ?_ ?_)
      | (with_reducible refine LeO.bind ?_ (fun _ => ?_))
      | exact ih0 _ _ _ _ _ _ _
      | exact ih1 _ _ _ _ _ _ _
      | exact ih2 _ _ _ _ _ _ _
      | exact ih3 _ _ _ _ _ _ _
      | exact ih4 _ _ _ _ _ _ _ _ _
      | exact ih5 _ _ _ _ _ _ _ _
      | exact ih6 _ _ _ _ _ _ _ _
      | exact LeO.none _
      | refine LeO.ite ?_ ?_
      | refine LeO.bind ?_ (fun _ => ?_)
    · intro y0 y1 y2 y3 y4 y5 y6
      unfold spec_CmdFault.j2
      repeat' first
      | (with_reducible exact ih0 _ _ _ _ _ _ _)
      | (with_reducible exact ih1 _ _ _ _ _ _ _)
      | (with_reducible exact ih2 _ _ _ _ _ _ _)
      | (with_reducible exact ih3 _ _ _ _ _ _ _)
      | (with_reducible exact ih4 _ _ _ _ _ _ _ _ _)
      | (with_reducible exact ih5 _ _ _ _ _ _ _ _)
      | (with_reducible exact ih6 _ _ _ _ _ _ _ _)
      | (with_reducible exact LeO.refl _)
      | (with_reducible exact LeO.none _)
      | (with_reducible refine LeO.ite ?_ ?_)
      | (with_reducible refine LeO.bind ?_ (fun _ => ?_))
      | exact ih0 _ _ _ _ _ _ _
      | exact ih1 _ _ _ _ _ _ _
      | exact ih2 _ _ _ _ _ _ _
      | exact ih3 _ _ _ _ _ _ _
      | exact ih4 _ _ _ _ _ _ _ _ _
      | exact ih5 _ _ _ _ _ _ _ _
      | exact ih6 _ _ _ _ _ _ _ _
      | exact LeO.none _
      | refine LeO.ite ?_ ?_
      | refine LeO.bind ?_ (fun _ => ?_)
    · intro y0 y1 y2 y3 y4 y5 y6
      unfold spec_CmdFault.j3
      repeat' first
      | (with_reducible exact ih0 _ _ _ _ _ _ _)
      | (with_reducible exact ih1 _ _ _ _ _ _ _)
      | (with_reducible exact ih2 _ _ _ _ _ _ _)
      | (with_reducible exact ih3 _ _ _ _ _ _ _)
      | (with_reducible exact ih4 _ _ _ _ _ _ _ _ _)
      | (with_reducible exact ih5 _ _ _ _ _ _ _ _)
      | (with_reducible exact ih6 _ _ _ _ _ _ _ _)
      | (with_reducible exact LeO.refl _)
      | (with_reducible exact LeO.none _)
      | (with_reducible refine LeO.ite ?_ ?_)
      | (with_reducible refine LeO.bind ?_ (fun _ => ?_))
      | exact ih0 _ _ _ _ _ _ _
      | exact ih1 _ _ _ _ _ _ _
      | exact ih2 _ _ _ _ _ _ _
      | exact ih3 _ _ _ _ _ _ _
      | exact ih4 _ _ _ _ _ _ _ _ _
      | exact ih5 _ _ _ _ _ _ _ _
      | exact ih6 _ _ _ _ _ _ _ _
      | exact LeO.none _
      | refine LeO.ite ?_ ?_
      | refine LeO.bind ?_ (fun _ => ?_)
    · intro y0 y1 y2 y3 y4 y5 y6 y7 y8
      unfold spec_CmdFault.j4
      repeat' first
      | (with_reducible exact ih0 _ _ _ _ _ _ _)
      | (with_reducible exact ih1 _ _ _ _ _ _ _)
      | (with_reducible exact ih2 _ _ _ _ _ _ _)
      | (with_reducible exact ih3 _ _ _ _ _ _ _)
      | (with_reducible exact ih4 _ _ _ _ _ _ _ _ _)
      | (with_reducible exact ih5 _ _ _ _ _ _ _ _)
      | (with_reducible exact ih6 _ _ _ _ _ _ _ _)
      | (with_reducible exact LeO.refl _)
      | (with_reducible exact LeO.none _)
      | (with_reducible refine LeO.ite ?_ ?_)
      | (with_reducible refine LeO.bind ?_ (fun _ => ?_))
      | exact ih0 _ _ _ _ _ _ _
      | exact ih1 _ _ _ _ _ _ _
      | exact ih2 _ _ _ _ _ _ _
      | exact ih3 _ _ _ _ _ _ _
      | exact ih4 _ _ _ _ _ _ _ _ _
      | exact ih5 _ _ _ _ _ _ _ _
      | exact ih6 _ _ _ _ _ _ _ _
      | exact LeO.none _
      | refine LeO.ite ?_ ?_
      | refine LeO.bind ?_ (fun _ => ?_)
    · intro y0 y1 y2 y3 y4 y5 y6 y7
      unfold spec_CmdFault.j5
      repeat' first
      | (with_reducible exact ih0 _ _ _ _ _ _ _)
      | (with_reducible exact ih1 _ _ _ _ _ _ _)
      | (with_reducible exact ih2 _ _ _ _ _ _ _)
      | (with_reducible exact ih3 _ _ _ _ _ _ _)
      | (with_reducible exact ih4 _ _ _ _ _ _ _ _ _)
      | (with_reducible exact ih5 _ _ _ _ _ _ _ _)
      | (with_reducible exact ih6 _ _ _ _ _ _ _ _)
      | (with_reducible exact LeO.refl _)
      | (with_reducible exact LeO.none _)
      | (with_reducible refine LeO.ite ?_ ?_)
      | (with_reducible refine LeO.bind ?_ (fun _ => ?_))
      | exact ih0 _ _ _ _ _ _ _
      | exact ih1 _ _ _ _ _ _ _
      | exact ih2 _ _ _ _ _ _ _
      | exact ih3 _ _ _ _ _ _ _
      | exact ih4 _ _ _ _ _ _ _ _ _
      | exact ih5 _ _ _ _ _ _ _ _
      | exact ih6 _ _ _ _ _ _ _ _
      | exact LeO.none _
      | refine LeO.ite ?_ ?_
      | refine LeO.bind ?_ (fun _ => ?_)
    · intro y0 y1 y2 y3 y4 y5 y6 y7
      unfold spec_CmdFault.j6
      repeat' first
      | (with_reducible exact ih0 _ _ _ _ _ _ _)
      | (with_reducible exact ih1 _ _ _ _ _ _ _)
      | (with_reducible exact ih2 _ _ _ _ _ _ _)
      | (with_reducible exact ih3 _ _ _ _ _ _ _)
      | (with_reducible exact ih4 _ _ _ _ _ _ _ _ _)
      | (with_reducible exact ih5 _ _ _ _ _ _ _ _)
      | (with_reducible exact ih6 _ _ _ _ _ _ _ _)
      | (with_reducible exact LeO.refl _)
      | (with_reducible exact LeO.none _)
      | (with_reducible refine LeO.ite ?_ ?_)
      | (with_reducible refine LeO.bind ?_ (fun _ => ?_))
      | exact ih0 _ _ _ _ _ _ _
      | exact ih1 _ _ _ _ _ _ _
      | exact ih2 _ _ _ _ _ _ _
      | exact ih3 _ _ _ _ _ _ _
      | exact ih4 _ _ _ _ _ _ _ _ _
      | exact ih5 _ _ _ _ _ _ _ _
      | exact ih6 _ _ _ _ _ _ _ _
      | exact LeO.none _
      | refine LeO.ite ?_ ?_
      | refine LeO.bind ?_ (fun _ => ?_)
theorem spec_CmdFault.mono : ∀ a0 a1 a2 a3 a4 a5 k, LeO (spec_CmdFault.f k a0 a1 a2 a3 a4 a5) (spec_CmdFault.f (k + 1) a0 a1 a2 a3 a4 a5) := by
  intro a0 a1 a2 a3 a4 a5 k
  obtain ⟨ih0, ih1, ih2, ih3, ih4, ih5, ih6⟩ := spec_CmdFault.mono_l k
  unfold spec_CmdFault.f
  repeat' first
      | (with_reducible exact ih0 _ _ _ _ _ _ _)
      | (with_reducible exact ih1 _ _ _ _ _ _ _)
      | (with_reducible exact ih2 _ _ _ _ _ _ _)
      | (with_reducible exact ih3 _ _ _ _ _ _ _)
      | (with_reducible exact ih4 _ _ _ _ _ _ _ _ _)
      | (with_reducible exact ih5 _ _ _ _ _ _ _ _)
      | (with_reducible exact ih6 _ _ _ _ _ _ _ _)
      | (with_reducible exact LeO.refl _)
      | (with_reducible exact LeO.none _)
      | (with_reducible refine LeO.ite ?_ ?_)
      | (with_reducible refine LeO.bind ?_ (fun _ => ?_))
      | exact ih0 _ _ _ _ _ _ _
      | exact ih1 _ _ _ _ _ _ _
      | exact ih2 _ _ _ _ _ _ _
      | exact ih3 _ _ _ _ _ _ _
      | exact ih4 _ _ _ _ _ _ _ _ _
      | exact ih5 _ _ _ _ _ _ _ _
      | exact ih6 _ _ _ _ _ _ _ _
      | exact LeO.none _
      | refine LeO.ite ?_ ?_
      | refine LeO.bind ?_ (fun _ => ?_)
set_option maxHeartbeats 8000000 in
set_option maxRecDepth 100000 in
theorem spec_CmdFault.calls (k : Nat) (a0_0 : Int) (a0_1 : Int) (a0_2 : Int) (a0_3 : ByteArray) (a0_4 : ByteArray) (a0_5 : ByteArray) (r : Int) (w : World) (h : spec_CmdFault.f k a0_0 a0_1 a0_2 a0_3 a0_4 a0_5 = some r) :
    Calls Try.prog 44 #[.agg #[.int .i64 a0_0, .int .i64 a0_1, .int .i64 a0_2, .string a0_3, .string a0_4, .string a0_5]] w fun e w' => e = .returned (.int .i64 r) ∧ Below w.heap.size w w' := by
  have hu56 := Try.underlying56
  have HB := Aside0.mk (Below.refl w.heap.size w)
  have H : (if a0_2 < 0 then (spec_CmdFault.j0 k true a0_0 a0_1 a0_2 a0_3 a0_4 a0_5) else (spec_CmdFault.j0 k (decide (a0_2 > 4)) a0_0 a0_1 a0_2 a0_3 a0_4 a0_5)) = some r := h
  clear h
  have HC2 := Aside0.mk H
  clear H
  go_enter Try.func44, Try.ntmps44
  go_upto_region 1 with (first | ((with_reducible refine gate_dst (N := 1) rfl ?_); (try (refine gate_guard (by rfl) ?_; dsimp only)); refine box_event ?hg (N := 1) ?hd (cs := #[.int .i64 a0_0, .int .i64 a0_1, .int .i64 a0_2, .string a0_3, .string a0_4, .string a0_5]) (t := 56) ?hr ?_; (case hd => rfl); (case hg => rfl); (case hr => first | (go_simp; done) | (go_simp; rfl)); intro gb108 hg w3 hbox hb; have n0_ := Aside0.mk (below_step (bl HB) hb); have n1_ := Aside0.mk (hbox); have n2_ := Aside0.mk (gS hg (bl HB)); have n3_ := Aside0.mk (gS hg (bl HB)); clear HB; have HB := n0_; have BK108 := n1_; have GW108 := n2_; have GE108 := n3_; clear n0_ n1_ n2_ n3_; clear hb hbox hg))
  (try simp only [Act.put, List.setIfInBounds_toArray, List.set_cons_zero, List.set_cons_succ])
  go_cut [12] (fun v12 wc => ∃ (kq : Nat) (x12_1 : Bool), v12 = .bool x12_1 ∧ Aside0 (spec_CmdFault.j0 kq x12_1 a0_0 a0_1 a0_2 a0_3 a0_4 a0_5 = some r) ∧ Aside0 (kq ≤ k) ∧ Aside0 (wc.heap[gb108]? = some (.cells #[.int .i64 a0_0, .int .i64 a0_1, .int .i64 a0_2, .string a0_3, .string a0_4, .string a0_5] 56 (0, 0))) ∧ Aside0 (Below w.heap.size w wc))
  case first =>
    have H := HC2.out
    clear HC2
    by_cases c4 : a0_2 < 0
    · rw [if_pos c4] at H
      have c4b0 : decide (a0_2 < 0) = true := decide_eq_true c4
      clear c4
      (first | rw [c4b0] | (simp only [i64_w, i32_w]; rw [c4b0]) | skip)
      have H' := Aside0.mk H
      clear H
      obtain ⟨hcz5_0, hcz5_1, hcz5_2, hcz5_3, hcz5_4, hcz5_5⟩ := ce6 BK108.out
      obtain ⟨hfz5_0, hfz5_1, hfz5_2, hfz5_3, hfz5_4, hfz5_5⟩ := fr6 BK108.out
      go_wp2
      go_meet
      case rel => exact ⟨_, (true), (by first | rfl | (simp; done) | (simp [*]; done)), H', ⟨by first | omega | exact Nat.le_refl _⟩, ⟨bk BK108⟩, ⟨bl HB⟩⟩
    · rw [if_neg c4] at H
      have c4b0 : decide (a0_2 < 0) = false := decide_eq_false c4
      clear c4
      (first | rw [c4b0] | (simp only [i64_w, i32_w]; rw [c4b0]) | skip)
      have H' := Aside0.mk H
      clear H
      obtain ⟨hcz6_0, hcz6_1, hcz6_2, hcz6_3, hcz6_4, hcz6_5⟩ := ce6 BK108.out
      obtain ⟨hfz6_0, hfz6_1, hfz6_2, hfz6_3, hfz6_4, hfz6_5⟩ := fr6 BK108.out
      go_wp2
      go_meet
      case rel => exact ⟨_, (decide (a0_2 > 4)), (by first | rfl | (simp; done) | (simp [*]; done)), H', ⟨by first | omega | exact Nat.le_refl _⟩, ⟨bk BK108⟩, ⟨bl HB⟩⟩
  case rest =>
    clear HC2
    try clear p2
    try clear c4
    try clear c4b0
    try clear hcz5_0 hcz5_1 hcz5_2 hcz5_3 hcz5_4 hcz5_5
    try clear hcz6_0 hcz6_1 hcz6_2 hcz6_3 hcz6_4 hcz6_5
    try clear hfz5_0 hfz5_1 hfz5_2 hfz5_3 hfz5_4 hfz5_5
    try clear hfz6_0 hfz6_1 hfz6_2 hfz6_3 hfz6_4 hfz6_5
    obtain ⟨kq, x12_1, rfl, HA, HJ1, BK108, HB⟩ := hcut
    cases kq with
    | zero => exact absurd HA.out (by simp [spec_CmdFault.j0])
    | succ kj1 =>
      have H := HA.out
      clear HA
      simp only [spec_CmdFault.j0] at H
      by_cases c7 : x12_1 = true
      · subst c7
        have H1 : (some 1) = some r := by rw [if_pos rfl] at H; exact H
        clear H
        have H := H1
        clear H1
        obtain rfl := Option.some.inj H
        go_wp2
        go_ret
        exact ⟨by first | rfl | (simp [errW_none, errW_some] <;> rfl) | (simp [*, errW_none, errW_some] <;> rfl), bl HB⟩
      · replace c7 := Bool.eq_false_iff.mpr c7
        subst c7
        have H1 : (if a0_2 = 0 then (if a0_0 = 0 then (if a0_1 = 0 then (if (a0_3.size : Int) = 0 then (if (a0_4.size : Int) = 0 then (if (a0_5.size : Int) = 0 then (some 0) else (some 6)) else (some 5)) else (some 4)) else (some 3)) else (some 2)) else (if a0_0 < 1 then (spec_CmdFault.j1 kj1 true a0_0 a0_1 a0_2 a0_3 a0_4 a0_5) else (spec_CmdFault.j1 kj1 (decide (a0_0 > 8)) a0_0 a0_1 a0_2 a0_3 a0_4 a0_5))) = some r := by rw [if_neg (show ¬ (false = true) by decide)] at H; exact H
        clear H
        have H := H1
        clear H1
        by_cases c8 : a0_2 = 0
        · rw [if_pos c8] at H
          have c8b0 : (a0_2 == 0) = true := beq_iff_eq.mpr c8
          have c8b1 : (a0_2 != 0) = false := bne_eq_false_iff_eq.mpr c8
          clear c8
          by_cases c9 : a0_0 = 0
          · rw [if_pos c9] at H
            have c9b0 : (a0_0 == 0) = true := beq_iff_eq.mpr c9
            have c9b1 : (a0_0 != 0) = false := bne_eq_false_iff_eq.mpr c9
            clear c9
            by_cases c10 : a0_1 = 0
            · rw [if_pos c10] at H
              have c10b0 : (a0_1 == 0) = true := beq_iff_eq.mpr c10
              have c10b1 : (a0_1 != 0) = false := bne_eq_false_iff_eq.mpr c10
              clear c10
              by_cases c11 : (a0_3.size : Int) = 0
              · rw [if_pos c11] at H
                have c11b0 : ((a0_3.size : Int) == 0) = true := beq_iff_eq.mpr c11
                have c11b1 : ((a0_3.size : Int) != 0) = false := bne_eq_false_iff_eq.mpr c11
                clear c11
                by_cases c12 : (a0_4.size : Int) = 0
                · rw [if_pos c12] at H
                  have c12b0 : ((a0_4.size : Int) == 0) = true := beq_iff_eq.mpr c12
                  have c12b1 : ((a0_4.size : Int) != 0) = false := bne_eq_false_iff_eq.mpr c12
                  clear c12
                  by_cases c13 : (a0_5.size : Int) = 0
                  · rw [if_pos c13] at H
                    have c13b0 : ((a0_5.size : Int) == 0) = true := beq_iff_eq.mpr c13
                    have c13b1 : ((a0_5.size : Int) != 0) = false := bne_eq_false_iff_eq.mpr c13
                    clear c13
                    obtain rfl := Option.some.inj H
                    obtain ⟨hcz14_0, hcz14_1, hcz14_2, hcz14_3, hcz14_4, hcz14_5⟩ := ce6 BK108.out
                    obtain ⟨hfz14_0, hfz14_1, hfz14_2, hfz14_3, hfz14_4, hfz14_5⟩ := fr6 BK108.out
                    go_wp2
                    go_ret
                    exact ⟨by first | rfl | (simp [errW_none, errW_some] <;> rfl) | (simp [*, errW_none, errW_some] <;> rfl), bl HB⟩
                  · rw [if_neg c13] at H
                    have c13b0 : ((a0_5.size : Int) == 0) = false := beq_eq_false_iff_ne.mpr c13
                    have c13b1 : ((a0_5.size : Int) != 0) = true := bne_iff_ne.mpr c13
                    obtain rfl := Option.some.inj H
                    obtain ⟨hcz15_0, hcz15_1, hcz15_2, hcz15_3, hcz15_4, hcz15_5⟩ := ce6 BK108.out
                    obtain ⟨hfz15_0, hfz15_1, hfz15_2, hfz15_3, hfz15_4, hfz15_5⟩ := fr6 BK108.out
                    go_wp2
                    go_ret
                    exact ⟨by first | rfl | (simp [errW_none, errW_some] <;> rfl) | (simp [*, errW_none, errW_some] <;> rfl), bl HB⟩
                · rw [if_neg c12] at H
                  have c12b0 : ((a0_4.size : Int) == 0) = false := beq_eq_false_iff_ne.mpr c12
                  have c12b1 : ((a0_4.size : Int) != 0) = true := bne_iff_ne.mpr c12
                  obtain rfl := Option.some.inj H
                  obtain ⟨hcz16_0, hcz16_1, hcz16_2, hcz16_3, hcz16_4, hcz16_5⟩ := ce6 BK108.out
                  obtain ⟨hfz16_0, hfz16_1, hfz16_2, hfz16_3, hfz16_4, hfz16_5⟩ := fr6 BK108.out
                  go_wp2
                  go_ret
                  exact ⟨by first | rfl | (simp [errW_none, errW_some] <;> rfl) | (simp [*, errW_none, errW_some] <;> rfl), bl HB⟩
              · rw [if_neg c11] at H
                have c11b0 : ((a0_3.size : Int) == 0) = false := beq_eq_false_iff_ne.mpr c11
                have c11b1 : ((a0_3.size : Int) != 0) = true := bne_iff_ne.mpr c11
                obtain rfl := Option.some.inj H
                obtain ⟨hcz17_0, hcz17_1, hcz17_2, hcz17_3, hcz17_4, hcz17_5⟩ := ce6 BK108.out
                obtain ⟨hfz17_0, hfz17_1, hfz17_2, hfz17_3, hfz17_4, hfz17_5⟩ := fr6 BK108.out
                go_wp2
                go_ret
                exact ⟨by first | rfl | (simp [errW_none, errW_some] <;> rfl) | (simp [*, errW_none, errW_some] <;> rfl), bl HB⟩
            · rw [if_neg c10] at H
              have c10b0 : (a0_1 == 0) = false := beq_eq_false_iff_ne.mpr c10
              have c10b1 : (a0_1 != 0) = true := bne_iff_ne.mpr c10
              obtain rfl := Option.some.inj H
              obtain ⟨hcz18_0, hcz18_1, hcz18_2, hcz18_3, hcz18_4, hcz18_5⟩ := ce6 BK108.out
              obtain ⟨hfz18_0, hfz18_1, hfz18_2, hfz18_3, hfz18_4, hfz18_5⟩ := fr6 BK108.out
              go_wp2
              go_ret
              exact ⟨by first | rfl | (simp [errW_none, errW_some] <;> rfl) | (simp [*, errW_none, errW_some] <;> rfl), bl HB⟩
          · rw [if_neg c9] at H
            have c9b0 : (a0_0 == 0) = false := beq_eq_false_iff_ne.mpr c9
            have c9b1 : (a0_0 != 0) = true := bne_iff_ne.mpr c9
            obtain rfl := Option.some.inj H
            obtain ⟨hcz19_0, hcz19_1, hcz19_2, hcz19_3, hcz19_4, hcz19_5⟩ := ce6 BK108.out
            obtain ⟨hfz19_0, hfz19_1, hfz19_2, hfz19_3, hfz19_4, hfz19_5⟩ := fr6 BK108.out
            go_wp2
            go_ret
            exact ⟨by first | rfl | (simp [errW_none, errW_some] <;> rfl) | (simp [*, errW_none, errW_some] <;> rfl), bl HB⟩
        · rw [if_neg c8] at H
          have c8b0 : (a0_2 == 0) = false := beq_eq_false_iff_ne.mpr c8
          have c8b1 : (a0_2 != 0) = true := bne_iff_ne.mpr c8
          have HC20 := Aside0.mk H
          clear H
          obtain ⟨hcz21_0, hcz21_1, hcz21_2, hcz21_3, hcz21_4, hcz21_5⟩ := ce6 BK108.out
          obtain ⟨hfz21_0, hfz21_1, hfz21_2, hfz21_3, hfz21_4, hfz21_5⟩ := fr6 BK108.out
          go_upto_region 15 with (fail)
          go_cut [41] (fun v41 wc => ∃ (kq : Nat) (x41_19 : Bool), v41 = .bool x41_19 ∧ Aside0 (spec_CmdFault.j1 kq x41_19 a0_0 a0_1 a0_2 a0_3 a0_4 a0_5 = some r) ∧ Aside0 (kq ≤ kj1) ∧ Aside0 (wc.heap[gb108]? = some (.cells #[.int .i64 a0_0, .int .i64 a0_1, .int .i64 a0_2, .string a0_3, .string a0_4, .string a0_5] 56 (0, 0))) ∧ Aside0 (Below w.heap.size w wc))
          case first =>
            have H := HC20.out
            clear HC20
            by_cases c22 : a0_0 < 1
            · rw [if_pos c22] at H
              have c22b0 : decide (a0_0 < 1) = true := decide_eq_true c22
              clear c22
              (first | rw [c22b0] | (simp only [i64_w, i32_w]; rw [c22b0]) | skip)
              have H' := Aside0.mk H
              clear H
              obtain ⟨hcz23_0, hcz23_1, hcz23_2, hcz23_3, hcz23_4, hcz23_5⟩ := ce6 BK108.out
              obtain ⟨hfz23_0, hfz23_1, hfz23_2, hfz23_3, hfz23_4, hfz23_5⟩ := fr6 BK108.out
              go_wp2
              go_meet
              case rel => exact ⟨_, (true), (by first | rfl | (simp; done) | (simp [*]; done)), H', ⟨by have := HJ1.out; first | omega | exact Nat.le_refl _⟩, ⟨bk BK108⟩, ⟨bl HB⟩⟩
            · rw [if_neg c22] at H
              have c22b0 : decide (a0_0 < 1) = false := decide_eq_false c22
              clear c22
              (first | rw [c22b0] | (simp only [i64_w, i32_w]; rw [c22b0]) | skip)
              have H' := Aside0.mk H
              clear H
              obtain ⟨hcz24_0, hcz24_1, hcz24_2, hcz24_3, hcz24_4, hcz24_5⟩ := ce6 BK108.out
              obtain ⟨hfz24_0, hfz24_1, hfz24_2, hfz24_3, hfz24_4, hfz24_5⟩ := fr6 BK108.out
              go_wp2
              go_meet
              case rel => exact ⟨_, (decide (a0_0 > 8)), (by first | rfl | (simp; done) | (simp [*]; done)), H', ⟨by have := HJ1.out; first | omega | exact Nat.le_refl _⟩, ⟨bk BK108⟩, ⟨bl HB⟩⟩
          case rest =>
            clear HC20
            try clear c1
            try clear c2
            try clear p2
            try clear c4
            try clear c4b0
            try clear c7
            try clear c8
            try clear c8b0
            try clear c8b1
            try clear c9
            try clear c9b0
            try clear c9b1
            try clear c10
            try clear c10b0
            try clear c10b1
            try clear c11
            try clear c11b0
            try clear c11b1
            try clear c12
            try clear c12b0
            try clear c12b1
            try clear c13
            try clear c13b0
            try clear c13b1
            try clear c22
            try clear c22b0
            try clear hcz14_0 hcz14_1 hcz14_2 hcz14_3 hcz14_4 hcz14_5
            try clear hcz15_0 hcz15_1 hcz15_2 hcz15_3 hcz15_4 hcz15_5
            try clear hcz16_0 hcz16_1 hcz16_2 hcz16_3 hcz16_4 hcz16_5
            try clear hcz17_0 hcz17_1 hcz17_2 hcz17_3 hcz17_4 hcz17_5
            try clear hcz18_0 hcz18_1 hcz18_2 hcz18_3 hcz18_4 hcz18_5
            try clear hcz19_0 hcz19_1 hcz19_2 hcz19_3 hcz19_4 hcz19_5
            try clear hcz21_0 hcz21_1 hcz21_2 hcz21_3 hcz21_4 hcz21_5
            try clear hcz23_0 hcz23_1 hcz23_2 hcz23_3 hcz23_4 hcz23_5
            try clear hcz24_0 hcz24_1 hcz24_2 hcz24_3 hcz24_4 hcz24_5
            try clear hcz5_0 hcz5_1 hcz5_2 hcz5_3 hcz5_4 hcz5_5
            try clear hcz6_0 hcz6_1 hcz6_2 hcz6_3 hcz6_4 hcz6_5
            try clear hfz14_0 hfz14_1 hfz14_2 hfz14_3 hfz14_4 hfz14_5
            try clear hfz15_0 hfz15_1 hfz15_2 hfz15_3 hfz15_4 hfz15_5
            try clear hfz16_0 hfz16_1 hfz16_2 hfz16_3 hfz16_4 hfz16_5
            try clear hfz17_0 hfz17_1 hfz17_2 hfz17_3 hfz17_4 hfz17_5
            try clear hfz18_0 hfz18_1 hfz18_2 hfz18_3 hfz18_4 hfz18_5
            try clear hfz19_0 hfz19_1 hfz19_2 hfz19_3 hfz19_4 hfz19_5
            try clear hfz21_0 hfz21_1 hfz21_2 hfz21_3 hfz21_4 hfz21_5
            try clear hfz23_0 hfz23_1 hfz23_2 hfz23_3 hfz23_4 hfz23_5
            try clear hfz24_0 hfz24_1 hfz24_2 hfz24_3 hfz24_4 hfz24_5
            try clear hfz5_0 hfz5_1 hfz5_2 hfz5_3 hfz5_4 hfz5_5
            try clear hfz6_0 hfz6_1 hfz6_2 hfz6_3 hfz6_4 hfz6_5
            try clear p2
            obtain ⟨kq, x41_19, rfl, HA, HJ19, BK108, HB⟩ := hcut
            cases kq with
            | zero => exact absurd HA.out (by simp [spec_CmdFault.j1])
            | succ kj19 =>
              have H := HA.out
              clear HA
              simp only [spec_CmdFault.j1] at H
              by_cases c25 : x41_19 = true
              · subst c25
                have H1 : (some 2) = some r := by rw [if_pos rfl] at H; exact H
                clear H
                have H := H1
                clear H1
                obtain rfl := Option.some.inj H
                go_wp2
                go_ret
                exact ⟨by first | rfl | (simp [errW_none, errW_some] <;> rfl) | (simp [*, errW_none, errW_some] <;> rfl), bl HB⟩
              · replace c25 := Bool.eq_false_iff.mpr c25
                subst c25
                have H1 : (if a0_1 < 1 then (spec_CmdFault.j2 kj19 true a0_0 a0_1 a0_2 a0_3 a0_4 a0_5) else (spec_CmdFault.j2 kj19 (decide (a0_1 > 1073741824)) a0_0 a0_1 a0_2 a0_3 a0_4 a0_5)) = some r := by rw [if_neg (show ¬ (false = true) by decide)] at H; exact H
                clear H
                have H := H1
                clear H1
                have HC26 := Aside0.mk H
                clear H
                go_upto_region 17 with (fail)
                go_cut [49] (fun v49 wc => ∃ (kq : Nat) (x49_25 : Bool), v49 = .bool x49_25 ∧ Aside0 (spec_CmdFault.j2 kq x49_25 a0_0 a0_1 a0_2 a0_3 a0_4 a0_5 = some r) ∧ Aside0 (kq ≤ kj19) ∧ Aside0 (wc.heap[gb108]? = some (.cells #[.int .i64 a0_0, .int .i64 a0_1, .int .i64 a0_2, .string a0_3, .string a0_4, .string a0_5] 56 (0, 0))) ∧ Aside0 (Below w.heap.size w wc))
                case first =>
                  have H := HC26.out
                  clear HC26
                  by_cases c27 : a0_1 < 1
                  · rw [if_pos c27] at H
                    have c27b0 : decide (a0_1 < 1) = true := decide_eq_true c27
                    clear c27
                    (first | rw [c27b0] | (simp only [i64_w, i32_w]; rw [c27b0]) | skip)
                    have H' := Aside0.mk H
                    clear H
                    obtain ⟨hcz28_0, hcz28_1, hcz28_2, hcz28_3, hcz28_4, hcz28_5⟩ := ce6 BK108.out
                    obtain ⟨hfz28_0, hfz28_1, hfz28_2, hfz28_3, hfz28_4, hfz28_5⟩ := fr6 BK108.out
                    go_wp2
                    go_meet
                    case rel => exact ⟨_, (true), (by first | rfl | (simp; done) | (simp [*]; done)), H', ⟨by have := HJ1.out; have := HJ19.out; first | omega | exact Nat.le_refl _⟩, ⟨bk BK108⟩, ⟨bl HB⟩⟩
                  · rw [if_neg c27] at H
                    have c27b0 : decide (a0_1 < 1) = false := decide_eq_false c27
                    clear c27
                    (first | rw [c27b0] | (simp only [i64_w, i32_w]; rw [c27b0]) | skip)
                    have H' := Aside0.mk H
                    clear H
                    obtain ⟨hcz29_0, hcz29_1, hcz29_2, hcz29_3, hcz29_4, hcz29_5⟩ := ce6 BK108.out
                    obtain ⟨hfz29_0, hfz29_1, hfz29_2, hfz29_3, hfz29_4, hfz29_5⟩ := fr6 BK108.out
                    go_wp2
                    go_meet
                    case rel => exact ⟨_, (decide (a0_1 > 1073741824)), (by first | rfl | (simp; done) | (simp [*]; done)), H', ⟨by have := HJ1.out; have := HJ19.out; first | omega | exact Nat.le_refl _⟩, ⟨bk BK108⟩, ⟨bl HB⟩⟩
                case rest =>
                  clear HC26
                  try clear c1
                  try clear c2
                  try clear p2
                  try clear c4
                  try clear c4b0
                  try clear c7
                  try clear c8
                  try clear c8b0
                  try clear c8b1
                  try clear c9
                  try clear c9b0
                  try clear c9b1
                  try clear c10
                  try clear c10b0
                  try clear c10b1
                  try clear c11
                  try clear c11b0
                  try clear c11b1
                  try clear c12
                  try clear c12b0
                  try clear c12b1
                  try clear c13
                  try clear c13b0
                  try clear c13b1
                  try clear c22
                  try clear c22b0
                  try clear c25
                  try clear c27
                  try clear c27b0
                  try clear hcz14_0 hcz14_1 hcz14_2 hcz14_3 hcz14_4 hcz14_5
                  try clear hcz15_0 hcz15_1 hcz15_2 hcz15_3 hcz15_4 hcz15_5
                  try clear hcz16_0 hcz16_1 hcz16_2 hcz16_3 hcz16_4 hcz16_5
                  try clear hcz17_0 hcz17_1 hcz17_2 hcz17_3 hcz17_4 hcz17_5
                  try clear hcz18_0 hcz18_1 hcz18_2 hcz18_3 hcz18_4 hcz18_5
                  try clear hcz19_0 hcz19_1 hcz19_2 hcz19_3 hcz19_4 hcz19_5
                  try clear hcz21_0 hcz21_1 hcz21_2 hcz21_3 hcz21_4 hcz21_5
                  try clear hcz23_0 hcz23_1 hcz23_2 hcz23_3 hcz23_4 hcz23_5
                  try clear hcz24_0 hcz24_1 hcz24_2 hcz24_3 hcz24_4 hcz24_5
                  try clear hcz28_0 hcz28_1 hcz28_2 hcz28_3 hcz28_4 hcz28_5
                  try clear hcz29_0 hcz29_1 hcz29_2 hcz29_3 hcz29_4 hcz29_5
                  try clear hcz5_0 hcz5_1 hcz5_2 hcz5_3 hcz5_4 hcz5_5
                  try clear hcz6_0 hcz6_1 hcz6_2 hcz6_3 hcz6_4 hcz6_5
                  try clear hfz14_0 hfz14_1 hfz14_2 hfz14_3 hfz14_4 hfz14_5
                  try clear hfz15_0 hfz15_1 hfz15_2 hfz15_3 hfz15_4 hfz15_5
                  try clear hfz16_0 hfz16_1 hfz16_2 hfz16_3 hfz16_4 hfz16_5
                  try clear hfz17_0 hfz17_1 hfz17_2 hfz17_3 hfz17_4 hfz17_5
                  try clear hfz18_0 hfz18_1 hfz18_2 hfz18_3 hfz18_4 hfz18_5
                  try clear hfz19_0 hfz19_1 hfz19_2 hfz19_3 hfz19_4 hfz19_5
                  try clear hfz21_0 hfz21_1 hfz21_2 hfz21_3 hfz21_4 hfz21_5
                  try clear hfz23_0 hfz23_1 hfz23_2 hfz23_3 hfz23_4 hfz23_5
                  try clear hfz24_0 hfz24_1 hfz24_2 hfz24_3 hfz24_4 hfz24_5
                  try clear hfz28_0 hfz28_1 hfz28_2 hfz28_3 hfz28_4 hfz28_5
                  try clear hfz29_0 hfz29_1 hfz29_2 hfz29_3 hfz29_4 hfz29_5
                  try clear hfz5_0 hfz5_1 hfz5_2 hfz5_3 hfz5_4 hfz5_5
                  try clear hfz6_0 hfz6_1 hfz6_2 hfz6_3 hfz6_4 hfz6_5
                  try clear p2
                  obtain ⟨kq, x49_25, rfl, HA, HJ25, BK108, HB⟩ := hcut
                  cases kq with
                  | zero => exact absurd HA.out (by simp [spec_CmdFault.j2])
                  | succ kj25 =>
                    have H := HA.out
                    clear HA
                    simp only [spec_CmdFault.j2] at H
                    by_cases c30 : x49_25 = true
                    · subst c30
                      have H1 : (some 3) = some r := by rw [if_pos rfl] at H; exact H
                      clear H
                      have H := H1
                      clear H1
                      obtain rfl := Option.some.inj H
                      go_wp2
                      go_ret
                      exact ⟨by first | rfl | (simp [errW_none, errW_some] <;> rfl) | (simp [*, errW_none, errW_some] <;> rfl), bl HB⟩
                    · replace c30 := Bool.eq_false_iff.mpr c30
                      subst c30
                      have H1 : (if (a0_3.size : Int) < 1 then (spec_CmdFault.j3 kj25 true a0_0 a0_1 a0_2 a0_3 a0_4 a0_5) else (spec_CmdFault.j3 kj25 (decide ((a0_3.size : Int) > 64)) a0_0 a0_1 a0_2 a0_3 a0_4 a0_5)) = some r := by rw [if_neg (show ¬ (false = true) by decide)] at H; exact H
                      clear H
                      have H := H1
                      clear H1
                      have HC31 := Aside0.mk H
                      clear H
                      go_upto_region 19 with (fail)
                      go_cut [59] (fun v59 wc => ∃ (kq : Nat) (x59_30 : Bool), v59 = .bool x59_30 ∧ Aside0 (spec_CmdFault.j3 kq x59_30 a0_0 a0_1 a0_2 a0_3 a0_4 a0_5 = some r) ∧ Aside0 (kq ≤ kj25) ∧ Aside0 (wc.heap[gb108]? = some (.cells #[.int .i64 a0_0, .int .i64 a0_1, .int .i64 a0_2, .string a0_3, .string a0_4, .string a0_5] 56 (0, 0))) ∧ Aside0 (Below w.heap.size w wc))
                      case first =>
                        have H := HC31.out
                        clear HC31
                        by_cases c32 : (a0_3.size : Int) < 1
                        · rw [if_pos c32] at H
                          have c32b0 : decide ((a0_3.size : Int) < 1) = true := decide_eq_true c32
                          have c32b1 : decide (a0_3.size < 1) = true := decide_eq_true (by omega)
                          clear c32
                          (first | rw [c32b0] | (simp only [i64_w, i32_w]; rw [c32b0]) | skip)
                          have H' := Aside0.mk H
                          clear H
                          obtain ⟨hcz33_0, hcz33_1, hcz33_2, hcz33_3, hcz33_4, hcz33_5⟩ := ce6 BK108.out
                          obtain ⟨hfz33_0, hfz33_1, hfz33_2, hfz33_3, hfz33_4, hfz33_5⟩ := fr6 BK108.out
                          go_wp2
                          go_meet
                          case rel => exact ⟨_, (true), (by first | rfl | (simp; done) | (simp [*]; done)), H', ⟨by have := HJ1.out; have := HJ19.out; have := HJ25.out; first | omega | exact Nat.le_refl _⟩, ⟨bk BK108⟩, ⟨bl HB⟩⟩
                        · rw [if_neg c32] at H
                          have c32b0 : decide ((a0_3.size : Int) < 1) = false := decide_eq_false c32
                          have c32b1 : decide (a0_3.size < 1) = false := decide_eq_false (by omega)
                          clear c32
                          (first | rw [c32b0] | (simp only [i64_w, i32_w]; rw [c32b0]) | skip)
                          have H' := Aside0.mk H
                          clear H
                          obtain ⟨hcz34_0, hcz34_1, hcz34_2, hcz34_3, hcz34_4, hcz34_5⟩ := ce6 BK108.out
                          obtain ⟨hfz34_0, hfz34_1, hfz34_2, hfz34_3, hfz34_4, hfz34_5⟩ := fr6 BK108.out
                          go_wp2
                          go_meet
                          case rel => exact ⟨_, (decide ((a0_3.size : Int) > 64)), (by first | rfl | (simp; done) | (simp [*]; done)), H', ⟨by have := HJ1.out; have := HJ19.out; have := HJ25.out; first | omega | exact Nat.le_refl _⟩, ⟨bk BK108⟩, ⟨bl HB⟩⟩
                      case rest =>
                        clear HC31
                        try clear c1
                        try clear c2
                        try clear p2
                        try clear c3
                        try clear c4
                        try clear c4b0
                        try clear c7
                        try clear c8
                        try clear c8b0
                        try clear c8b1
                        try clear c9
                        try clear c9b0
                        try clear c9b1
                        try clear c10
                        try clear c10b0
                        try clear c10b1
                        try clear c11
                        try clear c11b0
                        try clear c11b1
                        try clear c12
                        try clear c12b0
                        try clear c12b1
                        try clear c13
                        try clear c13b0
                        try clear c13b1
                        try clear c22
                        try clear c22b0
                        try clear c25
                        try clear c27
                        try clear c27b0
                        try clear c30
                        try clear c32
                        try clear c32b0
                        try clear c32b1
                        try clear hcz14_0 hcz14_1 hcz14_2 hcz14_3 hcz14_4 hcz14_5
                        try clear hcz15_0 hcz15_1 hcz15_2 hcz15_3 hcz15_4 hcz15_5
                        try clear hcz16_0 hcz16_1 hcz16_2 hcz16_3 hcz16_4 hcz16_5
                        try clear hcz17_0 hcz17_1 hcz17_2 hcz17_3 hcz17_4 hcz17_5
                        try clear hcz18_0 hcz18_1 hcz18_2 hcz18_3 hcz18_4 hcz18_5
                        try clear hcz19_0 hcz19_1 hcz19_2 hcz19_3 hcz19_4 hcz19_5
                        try clear hcz21_0 hcz21_1 hcz21_2 hcz21_3 hcz21_4 hcz21_5
                        try clear hcz23_0 hcz23_1 hcz23_2 hcz23_3 hcz23_4 hcz23_5
                        try clear hcz24_0 hcz24_1 hcz24_2 hcz24_3 hcz24_4 hcz24_5
                        try clear hcz28_0 hcz28_1 hcz28_2 hcz28_3 hcz28_4 hcz28_5
                        try clear hcz29_0 hcz29_1 hcz29_2 hcz29_3 hcz29_4 hcz29_5
                        try clear hcz33_0 hcz33_1 hcz33_2 hcz33_3 hcz33_4 hcz33_5
                        try clear hcz34_0 hcz34_1 hcz34_2 hcz34_3 hcz34_4 hcz34_5
                        try clear hcz5_0 hcz5_1 hcz5_2 hcz5_3 hcz5_4 hcz5_5
                        try clear hcz6_0 hcz6_1 hcz6_2 hcz6_3 hcz6_4 hcz6_5
                        try clear hfz14_0 hfz14_1 hfz14_2 hfz14_3 hfz14_4 hfz14_5
                        try clear hfz15_0 hfz15_1 hfz15_2 hfz15_3 hfz15_4 hfz15_5
                        try clear hfz16_0 hfz16_1 hfz16_2 hfz16_3 hfz16_4 hfz16_5
                        try clear hfz17_0 hfz17_1 hfz17_2 hfz17_3 hfz17_4 hfz17_5
                        try clear hfz18_0 hfz18_1 hfz18_2 hfz18_3 hfz18_4 hfz18_5
                        try clear hfz19_0 hfz19_1 hfz19_2 hfz19_3 hfz19_4 hfz19_5
                        try clear hfz21_0 hfz21_1 hfz21_2 hfz21_3 hfz21_4 hfz21_5
                        try clear hfz23_0 hfz23_1 hfz23_2 hfz23_3 hfz23_4 hfz23_5
                        try clear hfz24_0 hfz24_1 hfz24_2 hfz24_3 hfz24_4 hfz24_5
                        try clear hfz28_0 hfz28_1 hfz28_2 hfz28_3 hfz28_4 hfz28_5
                        try clear hfz29_0 hfz29_1 hfz29_2 hfz29_3 hfz29_4 hfz29_5
                        try clear hfz33_0 hfz33_1 hfz33_2 hfz33_3 hfz33_4 hfz33_5
                        try clear hfz34_0 hfz34_1 hfz34_2 hfz34_3 hfz34_4 hfz34_5
                        try clear hfz5_0 hfz5_1 hfz5_2 hfz5_3 hfz5_4 hfz5_5
                        try clear hfz6_0 hfz6_1 hfz6_2 hfz6_3 hfz6_4 hfz6_5
                        try clear p2
                        obtain ⟨kq, x59_30, rfl, HA, HJ30, BK108, HB⟩ := hcut
                        cases kq with
                        | zero => exact absurd HA.out (by simp [spec_CmdFault.j3])
                        | succ kj30 =>
                          have H := HA.out
                          clear HA
                          simp only [spec_CmdFault.j3] at H
                          by_cases c35 : x59_30 = true
                          · subst c35
                            have H1 : (some 4) = some r := by rw [if_pos rfl] at H; exact H
                            clear H
                            have H := H1
                            clear H1
                            obtain rfl := Option.some.inj H
                            go_wp2
                            go_ret
                            exact ⟨by first | rfl | (simp [errW_none, errW_some] <;> rfl) | (simp [*, errW_none, errW_some] <;> rfl), bl HB⟩
                          · replace c35 := Bool.eq_false_iff.mpr c35
                            subst c35
                            have H1 : (if a0_2 = 2 then (spec_CmdFault.j4 kj30 0 0 true a0_0 a0_1 a0_2 a0_3 a0_4 a0_5) else (spec_CmdFault.j4 kj30 0 0 (a0_2 == 4) a0_0 a0_1 a0_2 a0_3 a0_4 a0_5)) = some r := by rw [if_neg (show ¬ (false = true) by decide)] at H; exact H
                            clear H
                            have H := H1
                            clear H1
                            have HC36 := Aside0.mk H
                            clear H
                            go_upto_region 23 with (fail)
                            go_cut [67] (fun v67 wc => ∃ (kq : Nat) (x67_35 : Bool), v67 = .bool x67_35 ∧ Aside0 (spec_CmdFault.j4 kq 0 0 x67_35 a0_0 a0_1 a0_2 a0_3 a0_4 a0_5 = some r) ∧ Aside0 (kq ≤ kj30) ∧ Aside0 (wc.heap[gb108]? = some (.cells #[.int .i64 a0_0, .int .i64 a0_1, .int .i64 a0_2, .string a0_3, .string a0_4, .string a0_5] 56 (0, 0))) ∧ Aside0 (Below w.heap.size w wc))
                            case first =>
                              have H := HC36.out
                              clear HC36
                              by_cases c37 : a0_2 = 2
                              · rw [if_pos c37] at H
                                have c37b0 : (a0_2 == 2) = true := beq_iff_eq.mpr c37
                                have c37b1 : (a0_2 != 2) = false := bne_eq_false_iff_eq.mpr c37
                                clear c37
                                (first | rw [c37b0] | (simp only [i64_w, i32_w]; rw [c37b0]) | skip)
                                have H' := Aside0.mk H
                                clear H
                                obtain ⟨hcz38_0, hcz38_1, hcz38_2, hcz38_3, hcz38_4, hcz38_5⟩ := ce6 BK108.out
                                obtain ⟨hfz38_0, hfz38_1, hfz38_2, hfz38_3, hfz38_4, hfz38_5⟩ := fr6 BK108.out
                                go_wp2
                                go_meet
                                case rel => exact ⟨_, (true), (by first | rfl | (simp; done) | (simp [*]; done)), H', ⟨by have := HJ1.out; have := HJ19.out; have := HJ25.out; have := HJ30.out; first | omega | exact Nat.le_refl _⟩, ⟨bk BK108⟩, ⟨bl HB⟩⟩
                              · rw [if_neg c37] at H
                                have c37b0 : (a0_2 == 2) = false := beq_eq_false_iff_ne.mpr c37
                                have c37b1 : (a0_2 != 2) = true := bne_iff_ne.mpr c37
                                (first | rw [c37b0] | (simp only [i64_w, i32_w]; rw [c37b0]) | skip)
                                have H' := Aside0.mk H
                                clear H
                                obtain ⟨hcz39_0, hcz39_1, hcz39_2, hcz39_3, hcz39_4, hcz39_5⟩ := ce6 BK108.out
                                obtain ⟨hfz39_0, hfz39_1, hfz39_2, hfz39_3, hfz39_4, hfz39_5⟩ := fr6 BK108.out
                                go_wp2
                                go_meet
                                case rel => exact ⟨_, ((a0_2 == 4)), (by first | rfl | (simp; done) | (simp [*]; done)), H', ⟨by have := HJ1.out; have := HJ19.out; have := HJ25.out; have := HJ30.out; first | omega | exact Nat.le_refl _⟩, ⟨bk BK108⟩, ⟨bl HB⟩⟩
                            case rest =>
                              clear HC36
                              try clear c1
                              try clear c2
                              try clear p2
                              try clear c3
                              try clear c4
                              try clear c4b0
                              try clear c7
                              try clear c8
                              try clear c8b0
                              try clear c8b1
                              try clear c9
                              try clear c9b0
                              try clear c9b1
                              try clear c10
                              try clear c10b0
                              try clear c10b1
                              try clear c11
                              try clear c11b0
                              try clear c11b1
                              try clear c12
                              try clear c12b0
                              try clear c12b1
                              try clear c13
                              try clear c13b0
                              try clear c13b1
                              try clear c22
                              try clear c22b0
                              try clear c25
                              try clear c27
                              try clear c27b0
                              try clear c30
                              try clear c32
                              try clear c32b0
                              try clear c32b1
                              try clear c35
                              try clear c37
                              try clear c37b0
                              try clear c37b1
                              try clear hcz14_0 hcz14_1 hcz14_2 hcz14_3 hcz14_4 hcz14_5
                              try clear hcz15_0 hcz15_1 hcz15_2 hcz15_3 hcz15_4 hcz15_5
                              try clear hcz16_0 hcz16_1 hcz16_2 hcz16_3 hcz16_4 hcz16_5
                              try clear hcz17_0 hcz17_1 hcz17_2 hcz17_3 hcz17_4 hcz17_5
                              try clear hcz18_0 hcz18_1 hcz18_2 hcz18_3 hcz18_4 hcz18_5
                              try clear hcz19_0 hcz19_1 hcz19_2 hcz19_3 hcz19_4 hcz19_5
                              try clear hcz21_0 hcz21_1 hcz21_2 hcz21_3 hcz21_4 hcz21_5
                              try clear hcz23_0 hcz23_1 hcz23_2 hcz23_3 hcz23_4 hcz23_5
                              try clear hcz24_0 hcz24_1 hcz24_2 hcz24_3 hcz24_4 hcz24_5
                              try clear hcz28_0 hcz28_1 hcz28_2 hcz28_3 hcz28_4 hcz28_5
                              try clear hcz29_0 hcz29_1 hcz29_2 hcz29_3 hcz29_4 hcz29_5
                              try clear hcz33_0 hcz33_1 hcz33_2 hcz33_3 hcz33_4 hcz33_5
                              try clear hcz34_0 hcz34_1 hcz34_2 hcz34_3 hcz34_4 hcz34_5
                              try clear hcz38_0 hcz38_1 hcz38_2 hcz38_3 hcz38_4 hcz38_5
                              try clear hcz39_0 hcz39_1 hcz39_2 hcz39_3 hcz39_4 hcz39_5
                              try clear hcz5_0 hcz5_1 hcz5_2 hcz5_3 hcz5_4 hcz5_5
                              try clear hcz6_0 hcz6_1 hcz6_2 hcz6_3 hcz6_4 hcz6_5
                              try clear hfz14_0 hfz14_1 hfz14_2 hfz14_3 hfz14_4 hfz14_5
                              try clear hfz15_0 hfz15_1 hfz15_2 hfz15_3 hfz15_4 hfz15_5
                              try clear hfz16_0 hfz16_1 hfz16_2 hfz16_3 hfz16_4 hfz16_5
                              try clear hfz17_0 hfz17_1 hfz17_2 hfz17_3 hfz17_4 hfz17_5
                              try clear hfz18_0 hfz18_1 hfz18_2 hfz18_3 hfz18_4 hfz18_5
                              try clear hfz19_0 hfz19_1 hfz19_2 hfz19_3 hfz19_4 hfz19_5
                              try clear hfz21_0 hfz21_1 hfz21_2 hfz21_3 hfz21_4 hfz21_5
                              try clear hfz23_0 hfz23_1 hfz23_2 hfz23_3 hfz23_4 hfz23_5
                              try clear hfz24_0 hfz24_1 hfz24_2 hfz24_3 hfz24_4 hfz24_5
                              try clear hfz28_0 hfz28_1 hfz28_2 hfz28_3 hfz28_4 hfz28_5
                              try clear hfz29_0 hfz29_1 hfz29_2 hfz29_3 hfz29_4 hfz29_5
                              try clear hfz33_0 hfz33_1 hfz33_2 hfz33_3 hfz33_4 hfz33_5
                              try clear hfz34_0 hfz34_1 hfz34_2 hfz34_3 hfz34_4 hfz34_5
                              try clear hfz38_0 hfz38_1 hfz38_2 hfz38_3 hfz38_4 hfz38_5
                              try clear hfz39_0 hfz39_1 hfz39_2 hfz39_3 hfz39_4 hfz39_5
                              try clear hfz5_0 hfz5_1 hfz5_2 hfz5_3 hfz5_4 hfz5_5
                              try clear hfz6_0 hfz6_1 hfz6_2 hfz6_3 hfz6_4 hfz6_5
                              try clear p2
                              obtain ⟨kq, x67_35, rfl, HA, HJ35, BK108, HB⟩ := hcut
                              cases kq with
                              | zero => exact absurd HA.out (by simp [spec_CmdFault.j4])
                              | succ kj35 =>
                                have H := HA.out
                                clear HA
                                simp only [spec_CmdFault.j4] at H
                                have HC40 := Aside0.mk H
                                clear H
                                go_upto_if 67 with (fail)
                                go_cut [3] (fun v3 wc => ∃ (kq : Nat) (x3_39 : Int), v3 = .int .i64 x3_39 ∧ Aside0 (spec_CmdFault.j5 kq x3_39 0 a0_0 a0_1 a0_2 a0_3 a0_4 a0_5 = some r) ∧ Aside0 (kq ≤ kj35) ∧ Aside0 (wc.heap[gb108]? = some (.cells #[.int .i64 a0_0, .int .i64 a0_1, .int .i64 a0_2, .string a0_3, .string a0_4, .string a0_5] 56 (0, 0))) ∧ Aside0 (Below w.heap.size w wc))
                                case first =>
                                  have H := HC40.out
                                  clear HC40
                                  by_cases c41 : x67_35 = true
                                  · subst c41
                                    have H1 : (spec_CmdFault.j5 kj35 64 0 a0_0 a0_1 a0_2 a0_3 a0_4 a0_5) = some r := by rw [if_pos rfl] at H; exact H
                                    clear H
                                    have H := H1
                                    clear H1
                                    have H' := Aside0.mk H
                                    clear H
                                    go_wp2
                                    go_meet
                                    case rel => exact ⟨_, (64), (by first | rfl | (simp; done) | (simp [*]; done)), H', ⟨by have := HJ1.out; have := HJ19.out; have := HJ25.out; have := HJ30.out; have := HJ35.out; first | omega | exact Nat.le_refl _⟩, ⟨bk BK108⟩, ⟨bl HB⟩⟩
                                  · replace c41 := Bool.eq_false_iff.mpr c41
                                    subst c41
                                    have H1 : (spec_CmdFault.j5 kj35 0 0 a0_0 a0_1 a0_2 a0_3 a0_4 a0_5) = some r := by rw [if_neg (show ¬ (false = true) by decide)] at H; exact H
                                    clear H
                                    have H := H1
                                    clear H1
                                    have H' := Aside0.mk H
                                    clear H
                                    go_wp2
                                    go_meet
                                    case rel => exact ⟨_, (0), (by first | rfl | (simp; done) | (simp [*]; done)), H', ⟨by have := HJ1.out; have := HJ19.out; have := HJ25.out; have := HJ30.out; have := HJ35.out; first | omega | exact Nat.le_refl _⟩, ⟨bk BK108⟩, ⟨bl HB⟩⟩
                                case rest =>
                                  clear HC40
                                  try clear c1
                                  try clear c2
                                  try clear p2
                                  try clear c3
                                  try clear c4
                                  try clear c4b0
                                  try clear c7
                                  try clear c8
                                  try clear c8b0
                                  try clear c8b1
                                  try clear c9
                                  try clear c9b0
                                  try clear c9b1
                                  try clear c10
                                  try clear c10b0
                                  try clear c10b1
                                  try clear c11
                                  try clear c11b0
                                  try clear c11b1
                                  try clear c12
                                  try clear c12b0
                                  try clear c12b1
                                  try clear c13
                                  try clear c13b0
                                  try clear c13b1
                                  try clear c22
                                  try clear c22b0
                                  try clear c25
                                  try clear c27
                                  try clear c27b0
                                  try clear c30
                                  try clear c32
                                  try clear c32b0
                                  try clear c32b1
                                  try clear c35
                                  try clear c37
                                  try clear c37b0
                                  try clear c37b1
                                  try clear c41
                                  try clear hcz14_0 hcz14_1 hcz14_2 hcz14_3 hcz14_4 hcz14_5
                                  try clear hcz15_0 hcz15_1 hcz15_2 hcz15_3 hcz15_4 hcz15_5
                                  try clear hcz16_0 hcz16_1 hcz16_2 hcz16_3 hcz16_4 hcz16_5
                                  try clear hcz17_0 hcz17_1 hcz17_2 hcz17_3 hcz17_4 hcz17_5
                                  try clear hcz18_0 hcz18_1 hcz18_2 hcz18_3 hcz18_4 hcz18_5
                                  try clear hcz19_0 hcz19_1 hcz19_2 hcz19_3 hcz19_4 hcz19_5
                                  try clear hcz21_0 hcz21_1 hcz21_2 hcz21_3 hcz21_4 hcz21_5
                                  try clear hcz23_0 hcz23_1 hcz23_2 hcz23_3 hcz23_4 hcz23_5
                                  try clear hcz24_0 hcz24_1 hcz24_2 hcz24_3 hcz24_4 hcz24_5
                                  try clear hcz28_0 hcz28_1 hcz28_2 hcz28_3 hcz28_4 hcz28_5
                                  try clear hcz29_0 hcz29_1 hcz29_2 hcz29_3 hcz29_4 hcz29_5
                                  try clear hcz33_0 hcz33_1 hcz33_2 hcz33_3 hcz33_4 hcz33_5
                                  try clear hcz34_0 hcz34_1 hcz34_2 hcz34_3 hcz34_4 hcz34_5
                                  try clear hcz38_0 hcz38_1 hcz38_2 hcz38_3 hcz38_4 hcz38_5
                                  try clear hcz39_0 hcz39_1 hcz39_2 hcz39_3 hcz39_4 hcz39_5
                                  try clear hcz5_0 hcz5_1 hcz5_2 hcz5_3 hcz5_4 hcz5_5
                                  try clear hcz6_0 hcz6_1 hcz6_2 hcz6_3 hcz6_4 hcz6_5
                                  try clear hfz14_0 hfz14_1 hfz14_2 hfz14_3 hfz14_4 hfz14_5
                                  try clear hfz15_0 hfz15_1 hfz15_2 hfz15_3 hfz15_4 hfz15_5
                                  try clear hfz16_0 hfz16_1 hfz16_2 hfz16_3 hfz16_4 hfz16_5
                                  try clear hfz17_0 hfz17_1 hfz17_2 hfz17_3 hfz17_4 hfz17_5
                                  try clear hfz18_0 hfz18_1 hfz18_2 hfz18_3 hfz18_4 hfz18_5
                                  try clear hfz19_0 hfz19_1 hfz19_2 hfz19_3 hfz19_4 hfz19_5
                                  try clear hfz21_0 hfz21_1 hfz21_2 hfz21_3 hfz21_4 hfz21_5
                                  try clear hfz23_0 hfz23_1 hfz23_2 hfz23_3 hfz23_4 hfz23_5
                                  try clear hfz24_0 hfz24_1 hfz24_2 hfz24_3 hfz24_4 hfz24_5
                                  try clear hfz28_0 hfz28_1 hfz28_2 hfz28_3 hfz28_4 hfz28_5
                                  try clear hfz29_0 hfz29_1 hfz29_2 hfz29_3 hfz29_4 hfz29_5
                                  try clear hfz33_0 hfz33_1 hfz33_2 hfz33_3 hfz33_4 hfz33_5
                                  try clear hfz34_0 hfz34_1 hfz34_2 hfz34_3 hfz34_4 hfz34_5
                                  try clear hfz38_0 hfz38_1 hfz38_2 hfz38_3 hfz38_4 hfz38_5
                                  try clear hfz39_0 hfz39_1 hfz39_2 hfz39_3 hfz39_4 hfz39_5
                                  try clear hfz5_0 hfz5_1 hfz5_2 hfz5_3 hfz5_4 hfz5_5
                                  try clear hfz6_0 hfz6_1 hfz6_2 hfz6_3 hfz6_4 hfz6_5
                                  try clear p2
                                  obtain ⟨kq, x3_39, rfl, HA, HJ39, BK108, HB⟩ := hcut
                                  cases kq with
                                  | zero => exact absurd HA.out (by simp [spec_CmdFault.j5])
                                  | succ kj39 =>
                                    have H := HA.out
                                    clear HA
                                    simp only [spec_CmdFault.j5] at H
                                    have HC42 := Aside0.mk H
                                    clear H
                                    obtain ⟨hcz43_0, hcz43_1, hcz43_2, hcz43_3, hcz43_4, hcz43_5⟩ := ce6 BK108.out
                                    obtain ⟨hfz43_0, hfz43_1, hfz43_2, hfz43_3, hfz43_4, hfz43_5⟩ := fr6 BK108.out
                                    go_upto_if 70 with (fail)
                                    go_cut [4] (fun v4 wc => ∃ (kq : Nat) (x4_41 : Int), v4 = .int .i64 x4_41 ∧ Aside0 (spec_CmdFault.j6 kq x3_39 x4_41 a0_0 a0_1 a0_2 a0_3 a0_4 a0_5 = some r) ∧ Aside0 (kq ≤ kj39) ∧ Aside0 (wc.heap[gb108]? = some (.cells #[.int .i64 a0_0, .int .i64 a0_1, .int .i64 a0_2, .string a0_3, .string a0_4, .string a0_5] 56 (0, 0))) ∧ Aside0 (Below w.heap.size w wc))
                                    case first =>
                                      have H := HC42.out
                                      clear HC42
                                      by_cases c44 : a0_2 = 4
                                      · rw [if_pos c44] at H
                                        have c44b0 : (a0_2 == 4) = true := beq_iff_eq.mpr c44
                                        have c44b1 : (a0_2 != 4) = false := bne_eq_false_iff_eq.mpr c44
                                        clear c44
                                        (first | rw [c44b0] | (simp only [i64_w, i32_w]; rw [c44b0]) | skip)
                                        have H' := Aside0.mk H
                                        clear H
                                        go_wp2
                                        go_meet
                                        case rel => exact ⟨_, (64), (by first | rfl | (simp; done) | (simp [*]; done)), H', ⟨by have := HJ1.out; have := HJ19.out; have := HJ25.out; have := HJ30.out; have := HJ35.out; have := HJ39.out; first | omega | exact Nat.le_refl _⟩, ⟨bk BK108⟩, ⟨bl HB⟩⟩
                                      · rw [if_neg c44] at H
                                        have c44b0 : (a0_2 == 4) = false := beq_eq_false_iff_ne.mpr c44
                                        have c44b1 : (a0_2 != 4) = true := bne_iff_ne.mpr c44
                                        (first | rw [c44b0] | (simp only [i64_w, i32_w]; rw [c44b0]) | skip)
                                        have H' := Aside0.mk H
                                        clear H
                                        go_wp2
                                        go_meet
                                        case rel => exact ⟨_, (0), (by first | rfl | (simp; done) | (simp [*]; done)), H', ⟨by have := HJ1.out; have := HJ19.out; have := HJ25.out; have := HJ30.out; have := HJ35.out; have := HJ39.out; first | omega | exact Nat.le_refl _⟩, ⟨bk BK108⟩, ⟨bl HB⟩⟩
                                    case rest =>
                                      clear HC42
                                      try clear c1
                                      try clear c2
                                      try clear p2
                                      try clear c3
                                      try clear c4
                                      try clear c4b0
                                      try clear c7
                                      try clear c8
                                      try clear c8b0
                                      try clear c8b1
                                      try clear c9
                                      try clear c9b0
                                      try clear c9b1
                                      try clear c10
                                      try clear c10b0
                                      try clear c10b1
                                      try clear c11
                                      try clear c11b0
                                      try clear c11b1
                                      try clear c12
                                      try clear c12b0
                                      try clear c12b1
                                      try clear c13
                                      try clear c13b0
                                      try clear c13b1
                                      try clear c22
                                      try clear c22b0
                                      try clear c25
                                      try clear c27
                                      try clear c27b0
                                      try clear c30
                                      try clear c32
                                      try clear c32b0
                                      try clear c32b1
                                      try clear c35
                                      try clear c37
                                      try clear c37b0
                                      try clear c37b1
                                      try clear c41
                                      try clear c44
                                      try clear c44b0
                                      try clear c44b1
                                      try clear hcz14_0 hcz14_1 hcz14_2 hcz14_3 hcz14_4 hcz14_5
                                      try clear hcz15_0 hcz15_1 hcz15_2 hcz15_3 hcz15_4 hcz15_5
                                      try clear hcz16_0 hcz16_1 hcz16_2 hcz16_3 hcz16_4 hcz16_5
                                      try clear hcz17_0 hcz17_1 hcz17_2 hcz17_3 hcz17_4 hcz17_5
                                      try clear hcz18_0 hcz18_1 hcz18_2 hcz18_3 hcz18_4 hcz18_5
                                      try clear hcz19_0 hcz19_1 hcz19_2 hcz19_3 hcz19_4 hcz19_5
                                      try clear hcz21_0 hcz21_1 hcz21_2 hcz21_3 hcz21_4 hcz21_5
                                      try clear hcz23_0 hcz23_1 hcz23_2 hcz23_3 hcz23_4 hcz23_5
                                      try clear hcz24_0 hcz24_1 hcz24_2 hcz24_3 hcz24_4 hcz24_5
                                      try clear hcz28_0 hcz28_1 hcz28_2 hcz28_3 hcz28_4 hcz28_5
                                      try clear hcz29_0 hcz29_1 hcz29_2 hcz29_3 hcz29_4 hcz29_5
                                      try clear hcz33_0 hcz33_1 hcz33_2 hcz33_3 hcz33_4 hcz33_5
                                      try clear hcz34_0 hcz34_1 hcz34_2 hcz34_3 hcz34_4 hcz34_5
                                      try clear hcz38_0 hcz38_1 hcz38_2 hcz38_3 hcz38_4 hcz38_5
                                      try clear hcz39_0 hcz39_1 hcz39_2 hcz39_3 hcz39_4 hcz39_5
                                      try clear hcz43_0 hcz43_1 hcz43_2 hcz43_3 hcz43_4 hcz43_5
                                      try clear hcz5_0 hcz5_1 hcz5_2 hcz5_3 hcz5_4 hcz5_5
                                      try clear hcz6_0 hcz6_1 hcz6_2 hcz6_3 hcz6_4 hcz6_5
                                      try clear hfz14_0 hfz14_1 hfz14_2 hfz14_3 hfz14_4 hfz14_5
                                      try clear hfz15_0 hfz15_1 hfz15_2 hfz15_3 hfz15_4 hfz15_5
                                      try clear hfz16_0 hfz16_1 hfz16_2 hfz16_3 hfz16_4 hfz16_5
                                      try clear hfz17_0 hfz17_1 hfz17_2 hfz17_3 hfz17_4 hfz17_5
                                      try clear hfz18_0 hfz18_1 hfz18_2 hfz18_3 hfz18_4 hfz18_5
                                      try clear hfz19_0 hfz19_1 hfz19_2 hfz19_3 hfz19_4 hfz19_5
                                      try clear hfz21_0 hfz21_1 hfz21_2 hfz21_3 hfz21_4 hfz21_5
                                      try clear hfz23_0 hfz23_1 hfz23_2 hfz23_3 hfz23_4 hfz23_5
                                      try clear hfz24_0 hfz24_1 hfz24_2 hfz24_3 hfz24_4 hfz24_5
                                      try clear hfz28_0 hfz28_1 hfz28_2 hfz28_3 hfz28_4 hfz28_5
                                      try clear hfz29_0 hfz29_1 hfz29_2 hfz29_3 hfz29_4 hfz29_5
                                      try clear hfz33_0 hfz33_1 hfz33_2 hfz33_3 hfz33_4 hfz33_5
                                      try clear hfz34_0 hfz34_1 hfz34_2 hfz34_3 hfz34_4 hfz34_5
                                      try clear hfz38_0 hfz38_1 hfz38_2 hfz38_3 hfz38_4 hfz38_5
                                      try clear hfz39_0 hfz39_1 hfz39_2 hfz39_3 hfz39_4 hfz39_5
                                      try clear hfz43_0 hfz43_1 hfz43_2 hfz43_3 hfz43_4 hfz43_5
                                      try clear hfz5_0 hfz5_1 hfz5_2 hfz5_3 hfz5_4 hfz5_5
                                      try clear hfz6_0 hfz6_1 hfz6_2 hfz6_3 hfz6_4 hfz6_5
                                      try clear p2
                                      obtain ⟨kq, x4_41, rfl, HA, HJ41, BK108, HB⟩ := hcut
                                      cases kq with
                                      | zero => exact absurd HA.out (by simp [spec_CmdFault.j6])
                                      | succ kj41 =>
                                        have H := HA.out
                                        clear HA
                                        simp only [spec_CmdFault.j6] at H
                                        by_cases c45 : (a0_4.size : Int) > x3_39
                                        · rw [if_pos c45] at H
                                          have c45b0 : decide (x3_39 < (a0_4.size : Int)) = true := decide_eq_true c45
                                          clear c45
                                          obtain rfl := Option.some.inj H
                                          obtain ⟨hcz46_0, hcz46_1, hcz46_2, hcz46_3, hcz46_4, hcz46_5⟩ := ce6 BK108.out
                                          obtain ⟨hfz46_0, hfz46_1, hfz46_2, hfz46_3, hfz46_4, hfz46_5⟩ := fr6 BK108.out
                                          go_wp2
                                          go_ret
                                          exact ⟨by first | rfl | (simp [errW_none, errW_some] <;> rfl) | (simp [*, errW_none, errW_some] <;> rfl), bl HB⟩
                                        · rw [if_neg c45] at H
                                          have c45b0 : decide (x3_39 < (a0_4.size : Int)) = false := decide_eq_false c45
                                          clear c45
                                          by_cases c47 : (a0_5.size : Int) > x4_41
                                          · rw [if_pos c47] at H
                                            have c47b0 : decide (x4_41 < (a0_5.size : Int)) = true := decide_eq_true c47
                                            clear c47
                                            obtain rfl := Option.some.inj H
                                            obtain ⟨hcz48_0, hcz48_1, hcz48_2, hcz48_3, hcz48_4, hcz48_5⟩ := ce6 BK108.out
                                            obtain ⟨hfz48_0, hfz48_1, hfz48_2, hfz48_3, hfz48_4, hfz48_5⟩ := fr6 BK108.out
                                            go_wp2
                                            go_ret
                                            exact ⟨by first | rfl | (simp [errW_none, errW_some] <;> rfl) | (simp [*, errW_none, errW_some] <;> rfl), bl HB⟩
                                          · rw [if_neg c47] at H
                                            have c47b0 : decide (x4_41 < (a0_5.size : Int)) = false := decide_eq_false c47
                                            clear c47
                                            obtain rfl := Option.some.inj H
                                            obtain ⟨hcz49_0, hcz49_1, hcz49_2, hcz49_3, hcz49_4, hcz49_5⟩ := ce6 BK108.out
                                            obtain ⟨hfz49_0, hfz49_1, hfz49_2, hfz49_3, hfz49_4, hfz49_5⟩ := fr6 BK108.out
                                            go_wp2
                                            go_ret
                                            exact ⟨by first | rfl | (simp [errW_none, errW_some] <;> rfl) | (simp [*, errW_none, errW_some] <;> rfl), bl HB⟩

end Go.Proofs.Ytnbcpiaajckoaaa.P
