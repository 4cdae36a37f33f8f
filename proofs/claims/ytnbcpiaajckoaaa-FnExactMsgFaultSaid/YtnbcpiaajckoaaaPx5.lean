-- WRITTEN by a turned copy of the kit's print program (wip/bin/mkprint.py of this work): Lean checks it.
import Derived.Test.YtnbcpiaajckoaaaPx0
import Derived.Test.YtnbcpiaajckoaaaPx1
import Derived.Test.YtnbcpiaajckoaaaPx4
namespace Go.Proofs.Ytnbcpiaajckoaaa.P
open Go.RowKit Go.Proofs.YtnbcpiaajckoaaaW.PrintWords Go.Proofs.YtnbcpiaajckoaaaW.PrintLast Go.Proofs.YtnbcpiaajckoaaaW.PrintMore
attribute [local go_sem] max2_int min2_int max_two min_two max_three min_three max_four min_four   -- for this text's walks alone
set_option linter.unusedVariables false
set_option linter.unusedSimpArgs false

/-! ### spec_MsgFault: function 6 -/
mutual
def spec_MsgFault.j0 : Nat → Int → Bool → Int → Int → Int → Int → Int → Int → Int → Int → Int → List (S58) → Option (Int)
  | 0, _, _, _, _, _, _, _, _, _, _, _, _ => none
  | k + 1, x3, x26, x118000, x118001, x118002, x118003, x118004, x118005, x118006, x118007, x118008, x118009 => if x26 = true then (some 2) else ((spec_l1in.f x118003 1 1073741824).bind fun t121 => (if t121 = true then (if x3 = 1 then (spec_MsgFault.j1 k x3 true x118000 x118001 x118002 x118003 x118004 x118005 x118006 x118007 x118008 x118009) else (if x3 = 3 then (spec_MsgFault.j1 k x3 true x118000 x118001 x118002 x118003 x118004 x118005 x118006 x118007 x118008 x118009) else (spec_MsgFault.j1 k x3 (x3 == 5) x118000 x118001 x118002 x118003 x118004 x118005 x118006 x118007 x118008 x118009))) else (some 3)))
def spec_MsgFault.j1 : Nat → Int → Bool → Int → Int → Int → Int → Int → Int → Int → Int → Int → List (S58) → Option (Int)
  | 0, _, _, _, _, _, _, _, _, _, _, _, _ => none
  | k + 1, x3, x4, x118000, x118001, x118002, x118003, x118004, x118005, x118006, x118007, x118008, x118009 => if x4 = true then ((spec_l1in.f x118004 0 4096).bind fun t122 => (if t122 = true then ((spec_l1in.f x118005 0 x118003).bind fun t123 => (if t123 = true then (if ((x118004 == 0) != (x118005 == 0)) = true then (some 4) else (spec_MsgFault.j2 k x3 x4 x118000 x118001 x118002 x118003 x118004 x118005 x118006 x118007 x118008 x118009)) else (some 4))) else (some 4))) else (if x118005 = 0 then (if x118004 < 0 then (some 4) else (if x118004 > 4096 then (some 4) else (if x3 = 6 then (spec_MsgFault.j2 k x3 x4 x118000 x118001 x118002 x118003 x118004 x118005 x118006 x118007 x118008 x118009) else (if x118004 = 0 then (spec_MsgFault.j2 k x3 x4 x118000 x118001 x118002 x118003 x118004 x118005 x118006 x118007 x118008 x118009) else (some 4))))) else (some 4))
def spec_MsgFault.j2 : Nat → Int → Bool → Int → Int → Int → Int → Int → Int → Int → Int → Int → List (S58) → Option (Int)
  | 0, _, _, _, _, _, _, _, _, _, _, _, _ => none
  | k + 1, x3, x4, x118000, x118001, x118002, x118003, x118004, x118005, x118006, x118007, x118008, x118009 => if x3 = 5 then ((spec_l1in.f x118006 0 4096).bind fun t124 => (if t124 = true then (spec_MsgFault.j3 k x3 x4 false x118000 x118001 x118002 x118003 x118004 x118005 x118006 x118007 x118008 x118009) else (spec_MsgFault.j3 k x3 x4 true x118000 x118001 x118002 x118003 x118004 x118005 x118006 x118007 x118008 x118009))) else (spec_MsgFault.j3 k x3 x4 (x118006 != 0) x118000 x118001 x118002 x118003 x118004 x118005 x118006 x118007 x118008 x118009)
def spec_MsgFault.j3 : Nat → Int → Bool → Bool → Int → Int → Int → Int → Int → Int → Int → Int → Int → List (S58) → Option (Int)
  | 0, _, _, _, _, _, _, _, _, _, _, _, _, _ => none
  | k + 1, x3, x4, x101, x118000, x118001, x118002, x118003, x118004, x118005, x118006, x118007, x118008, x118009 => if x101 = true then (some 5) else (if x4 = true then (if x118007 = 0 then ((spec_l1in.f x118007 0 1).bind fun t125 => (spec_MsgFault.j4 k x3 (!t125) x118000 x118001 x118002 x118003 x118004 x118005 x118006 x118007 x118008 x118009)) else (spec_MsgFault.j4 k x3 true x118000 x118001 x118002 x118003 x118004 x118005 x118006 x118007 x118008 x118009)) else ((spec_l1in.f x118007 0 1).bind fun t126 => (spec_MsgFault.j4 k x3 (!t126) x118000 x118001 x118002 x118003 x118004 x118005 x118006 x118007 x118008 x118009)))
def spec_MsgFault.j4 : Nat → Int → Bool → Int → Int → Int → Int → Int → Int → Int → Int → Int → List (S58) → Option (Int)
  | 0, _, _, _, _, _, _, _, _, _, _, _, _ => none
  | k + 1, x3, x113, x118000, x118001, x118002, x118003, x118004, x118005, x118006, x118007, x118008, x118009 => if x113 = true then (some 5) else (if x118008 = 0 then (spec_MsgFault.j5 k x3 false x118000 x118001 x118002 x118003 x118004 x118005 x118006 x118007 x118008 x118009) else (if x3 = 6 then (if x118007 = 1 then (spec_MsgFault.j5 k x3 true x118000 x118001 x118002 x118003 x118004 x118005 x118006 x118007 x118008 x118009) else ((spec_l1in.f x118008 0 4096).bind fun t127 => (spec_MsgFault.j5 k x3 (!t127) x118000 x118001 x118002 x118003 x118004 x118005 x118006 x118007 x118008 x118009))) else (spec_MsgFault.j5 k x3 true x118000 x118001 x118002 x118003 x118004 x118005 x118006 x118007 x118008 x118009)))
def spec_MsgFault.j5 : Nat → Int → Bool → Int → Int → Int → Int → Int → Int → Int → Int → Int → List (S58) → Option (Int)
  | 0, _, _, _, _, _, _, _, _, _, _, _, _ => none
  | k + 1, x3, x131, x118000, x118001, x118002, x118003, x118004, x118005, x118006, x118007, x118008, x118009 => if x131 = true then (some 5) else (if x3 = 5 then (if (x118009.length : Int) > 32 then (some 6) else (if (wrap64 (x118004 + (x118009.length : Int))) > 4096 then (some 6) else ((spec_l1rising.f k x118009 x118005 x118003).bind fun t128 => (if t128 = true then (some 0) else (some 6))))) else (if (x118009.length : Int) = 0 then (some 0) else (some 6)))
end
def spec_MsgFault.f (k : Nat) (a0_0 : Int) (a0_1 : Int) (a0_2 : Int) (a0_3 : Int) (a0_4 : Int) (a0_5 : Int) (a0_6 : Int) (a0_7 : Int) (a0_8 : Int) (l0_9 : List (S58)) : Option (Int) := (spec_l1in.f a0_0 1 6).bind fun t118 => (if t118 = true then ((spec_l1in.f a0_1 1 7).bind fun t119 => (if t119 = true then ((spec_l1in.f a0_2 1 7).bind fun t120 => (if t120 = true then (spec_MsgFault.j0 k a0_0 (a0_1 == a0_2) a0_0 a0_1 a0_2 a0_3 a0_4 a0_5 a0_6 a0_7 a0_8 l0_9) else (spec_MsgFault.j0 k a0_0 true a0_0 a0_1 a0_2 a0_3 a0_4 a0_5 a0_6 a0_7 a0_8 l0_9))) else (spec_MsgFault.j0 k a0_0 true a0_0 a0_1 a0_2 a0_3 a0_4 a0_5 a0_6 a0_7 a0_8 l0_9))) else (some 1))
theorem spec_MsgFault.mono_l : ∀ k, (∀ y0 y1 y2 y3 y4 y5 y6 y7 y8 y9 y10 y11, LeO (spec_MsgFault.j0 k y0 y1 y2 y3 y4 y5 y6 y7 y8 y9 y10 y11) (spec_MsgFault.j0 (k + 1) y0 y1 y2 y3 y4 y5 y6 y7 y8 y9 y10 y11)) ∧ (∀ y0 y1 y2 y3 y4 y5 y6 y7 y8 y9 y10 y11, LeO (spec_MsgFault.j1 k y0 y1 y2 y3 y4 y5 y6 y7 y8 y9 y10 y11) (spec_MsgFault.j1 (k + 1) y0 y1 y2 y3 y4 y5 y6 y7 y8 y9 y10 y11)) ∧ (∀ y0 y1 y2 y3 y4 y5 y6 y7 y8 y9 y10 y11, LeO (spec_MsgFault.j2 k y0 y1 y2 y3 y4 y5 y6 y7 y8 y9 y10 y11) (spec_MsgFault.j2 (k + 1) y0 y1 y2 y3 y4 y5 y6 y7 y8 y9 y10 y11)) ∧ (∀ y0 y1 y2 y3 y4 y5 y6 y7 y8 y9 y10 y11 y12, LeO (spec_MsgFault.j3 k y0 y1 y2 y3 y4 y5 y6 y7 y8 y9 y10 y11 y12) (spec_MsgFault.j3 (k + 1) y0 y1 y2 y3 y4 y5 y6 y7 y8 y9 y10 y11 y12)) ∧ (∀ y0 y1 y2 y3 y4 y5 y6 y7 y8 y9 y10 y11, LeO (spec_MsgFault.j4 k y0 y1 y2 y3 y4 y5 y6 y7 y8 y9 y10 y11) (spec_MsgFault.j4 (k + 1) y0 y1 y2 y3 y4 y5 y6 y7 y8 y9 y10 y11)) ∧ (∀ y0 y1 y2 y3 y4 y5 y6 y7 y8 y9 y10 y11, LeO (spec_MsgFault.j5 k y0 y1 y2 y3 y4 y5 y6 y7 y8 y9 y10 y11) (spec_MsgFault.j5 (k + 1) y0 y1 y2 y3 y4 y5 y6 y7 y8 y9 y10 y11))
  | 0 => ⟨fun _ _ _ _ _ _ _ _ _ _ _ _ r h => by simp [spec_MsgFault.j0] at h, fun _ _ _ _ _ _ _ _ _ _ _ _ r h => by simp [spec_MsgFault.j1] at h, fun _ _ _ _ _ _ _ _ _ _ _ _ r h => by simp [spec_MsgFault.j2] at h, fun _ _ _ _ _ _ _ _ _ _ _ _ _ r h => by simp [spec_MsgFault.j3] at h, fun _ _ _ _ _ _ _ _ _ _ _ _ r h => by simp [spec_MsgFault.j4] at h, fun _ _ _ _ _ _ _ _ _ _ _ _ r h => by simp [spec_MsgFault.j5] at h⟩
  | k + 1 => by
    obtain ⟨ih0, ih1, ih2, ih3, ih4, ih5⟩ := spec_MsgFault.mono_l k
    refine ⟨?_, ?_, ?_, ?_, ?_, ?_⟩
    · intro y0 y1 y2 y3 y4 y5 y6 y7 y8 y9 y10 y11
      unfold spec_MsgFault.j0
      repeat' first
      | (with_reducible exact ih0 _ _ _ _ _ _ _ _ _ _ _ _)
      | (with_reducible exact ih1 _ _ _ _ _ _ _ _ _ _ _ _)
      | (with_reducible exact ih2 _ _ _ _ _ _ _ _ _ _ _ _)
      | (with_reducible exact ih3 _ _ _ _ _ _ _ _ _ _ _ _ _)
      | (with_reducible exact ih4 _ _ _ _ _ _ _ _ _ _ _ _)
      | (with_reducible exact ih5 _ _ _ _ _ _ _ _ _ _ _ _)
      | (with_reducible exact spec_l1rising.mono _ _ _ _)
      | (with_reducible exact LeO.refl _)
      | (with_reducible exact LeO.none _)
      | (with_reducible refine LeO.ite ?_ ?_)
      | (with_reducible refine LeO.bind ?_ (fun _ => ?_))
      | exact ih0 _ _ _ _ _ _ _ _ _ _ _ _
      | exact ih1 _ _ _ _ _ _ _ _ _ _ _ _
      | exact ih2 _ _ _ _ _ _ _ _ _ _ _ _
      | exact ih3 _ _ _ _ _ _ _ _ _ _ _ _ _
      | exact ih4 _ _ _ _ _ _ _ _ _ _ _ _
      | exact ih5 _ _ _ _ _ _ _ _ _ _ _ _
      | exact spec_l1rising.mono _ _ _ _
      | exact LeO.none _
      | refine LeO.ite ?_ ?_
      | refine LeO.bind ?_ (fun _ => ?_)
    · intro y0 y1 y2 y3 y4 y5 y6 y7 y8 y9 y10 y11
      unfold spec_MsgFault.j1
      repeat' first
      | (with_reducible exact ih0 _ _ _ _ _ _ _ _ _ _ _ _)
      | (with_reducible exact ih1 _ _ _ _ _ _ _ _ _ _ _ _)
      | (with_reducible exact ih2 _ _ _ _ _ _ _ _ _ _ _ _)
      | (with_reducible exact ih3 _ _ _ _ _ _ _ _ _ _ _ _ _)
      | (with_reducible exact ih4 _ _ _ _ _ _ _ _ _ _ _ _)
      | (with_reducible exact ih5 _ _ _ _ _ _ _ _ _ _ _ _)
      | (with_reducible exact spec_l1rising.mono _ _ _ _)
      | (with_reducible exact LeO.refl _)
      | (with_reducible exact LeO.none _)
      | (with_reducible refine LeO.ite ?_ ?_)
      | (with_reducible refine LeO.bind ?_ (fun _ => ?_))
      | exact ih0 _ _ _ _ _ _ _ _ _ _ _ _
      | exact ih1 _ _ _ _ _ _ _ _ _ _ _ _
      | exact ih2 _ _ _ _ _ _ _ _ _ _ _ _
      | exact ih3 _ _ _ _ _ _ _ _ _ _ _ _ _
      | exact ih4 _ _ _ _ _ _ _ _ _ _ _ _
      | exact ih5 _ _ _ _ _ _ _ _ _ _ _ _
      | exact spec_l1rising.mono _ _ _ _
      | exact LeO.none _
      | refine LeO.ite ?_ ?_
      | refine LeO.bind ?_ (fun _ => ?_)
    · intro y0 y1 y2 y3 y4 y5 y6 y7 y8 y9 y10 y11
      unfold spec_MsgFault.j2
      repeat' first
      | (with_reducible exact ih0 _ _ _ _ _ _ _ _ _ _ _ _)
      | (with_reducible exact ih1 _ _ _ _ _ _ _ _ _ _ _ _)
      | (with_reducible exact ih2 _ _ _ _ _ _ _ _ _ _ _ _)
      | (with_reducible exact ih3 _ _ _ _ _ _ _ _ _ _ _ _ _)
      | (with_reducible exact ih4 _ _ _ _ _ _ _ _ _ _ _ _)
      | (with_reducible exact ih5 _ _ _ _ _ _ _ _ _ _ _ _)
      | (with_reducible exact spec_l1rising.mono _ _ _ _)
      | (with_reducible exact LeO.refl _)
      | (with_reducible exact LeO.none _)
      | (with_reducible refine LeO.ite ?_ ?_)
      | (with_reducible refine LeO.bind ?_ (fun _ => ?_))
      | exact ih0 _ _ _ _ _ _ _ _ _ _ _ _
      | exact ih1 _ _ _ _ _ _ _ _ _ _ _ _
      | exact ih2 _ _ _ _ _ _ _ _ _ _ _ _
      | exact ih3 _ _ _ _ _ _ _ _ _ _ _ _ _
      | exact ih4 _ _ _ _ _ _ _ _ _ _ _ _
      | exact ih5 _ _ _ _ _ _ _ _ _ _ _ _
      | exact spec_l1rising.mono _ _ _ _
      | exact LeO.none _
      | refine LeO.ite ?_ ?_
      | refine LeO.bind ?_ (fun _ => ?_)
    · intro y0 y1 y2 y3 y4 y5 y6 y7 y8 y9 y10 y11 y12
      unfold spec_MsgFault.j3
      repeat' first
      | (with_reducible exact ih0 _ _ _ _ _ _ _ _ _ _ _ _)
      | (with_reducible exact ih1 _ _ _ _ _ _ _ _ _ _ _ _)
      | (with_reducible exact ih2 _ _ _ _ _ _ _ _ _ _ _ _)
      | (with_reducible exact ih3 _ _ _ _ _ _ _ _ _ _ _ _ _)
      | (with_reducible exact ih4 _ _ _ _ _ _ _ _ _ _ _ _)
      | (with_reducible exact ih5 _ _ _ _ _ _ _ _ _ _ _ _)
      | (with_reducible exact spec_l1rising.mono _ _ _ _)
      | (with_reducible exact LeO.refl _)
      | (with_reducible exact LeO.none _)
      | (with_reducible refine LeO.ite ?_ ?_)
      | (with_reducible refine LeO.bind ?_ (fun _ => ?_))
      | exact ih0 _ _ _ _ _ _ _ _ _ _ _ _
      | exact ih1 _ _ _ _ _ _ _ _ _ _ _ _
      | exact ih2 _ _ _ _ _ _ _ _ _ _ _ _
      | exact ih3 _ _ _ _ _ _ _ _ _ _ _ _ _
      | exact ih4 _ _ _ _ _ _ _ _ _ _ _ _
      | exact ih5 _ _ _ _ _ _ _ _ _ _ _ _
      | exact spec_l1rising.mono _ _ _ _
      | exact LeO.none _
      | refine LeO.ite ?_ ?_
      | refine LeO.bind ?_ (fun _ => ?_)
    · intro y0 y1 y2 y3 y4 y5 y6 y7 y8 y9 y10 y11
      unfold spec_MsgFault.j4
      repeat' first
      | (with_reducible exact ih0 _ _ _ _ _ _ _ _ _ _ _ _)
      | (with_reducible exact ih1 _ _ _ _ _ _ _ _ _ _ _ _)
      | (with_reducible exact ih2 _ _ _ _ _ _ _ _ _ _ _ _)
      | (with_reducible exact ih3 _ _ _ _ _ _ _ _ _ _ _ _ _)
      | (with_reducible exact ih4 _ _ _ _ _ _ _ _ _ _ _ _)
      | (with_reducible exact ih5 _ _ _ _ _ _ _ _ _ _ _ _)
      | (with_reducible exact spec_l1rising.mono _ _ _ _)
      | (with_reducible exact LeO.refl _)
      | (with_reducible exact LeO.none _)
      | (with_reducible refine LeO.ite ?_ ?_)
      | (with_reducible refine LeO.bind ?_ (fun _ => ?_))
      | exact ih0 _ _ _ _ _ _ _ _ _ _ _ _
      | exact ih1 _ _ _ _ _ _ _ _ _ _ _ _
      | exact ih2 _ _ _ _ _ _ _ _ _ _ _ _
      | exact ih3 _ _ _ _ _ _ _ _ _ _ _ _ _
      | exact ih4 _ _ _ _ _ _ _ _ _ _ _ _
      | exact ih5 _ _ _ _ _ _ _ _ _ _ _ _
      | exact spec_l1rising.mono _ _ _ _
      | exact LeO.none _
      | refine LeO.ite ?_ ?_
      | refine LeO.bind ?_ (fun _ => ?_)
    · intro y0 y1 y2 y3 y4 y5 y6 y7 y8 y9 y10 y11
      unfold spec_MsgFault.j5
      repeat' first
      | (with_reducible exact ih0 _ _ _ _ _ _ _ _ _ _ _ _)
      | (with_reducible exact ih1 _ _ _ _ _ _ _ _ _ _ _ _)
      | (with_reducible exact ih2 _ _ _ _ _ _ _ _ _ _ _ _)
      | (with_reducible exact ih3 _ _ _ _ _ _ _ _ _ _ _ _ _)
      | (with_reducible exact ih4 _ _ _ _ _ _ _ _ _ _ _ _)
      | (with_reducible exact ih5 _ _ _ _ _ _ _ _ _ _ _ _)
      | (with_reducible exact spec_l1rising.mono _ _ _ _)
      | (with_reducible exact LeO.refl _)
      | (with_reducible exact LeO.none _)
      | (with_reducible refine LeO.ite ?_ ?_)
      | (with_reducible refine LeO.bind ?_ (fun _ => ?_))
      | exact ih0 _ _ _ _ _ _ _ _ _ _ _ _
      | exact ih1 _ _ _ _ _ _ _ _ _ _ _ _
      | exact ih2 _ _ _ _ _ _ _ _ _ _ _ _
      | exact ih3 _ _ _ _ _ _ _ _ _ _ _ _ _
      | exact ih4 _ _ _ _ _ _ _ _ _ _ _ _
      | exact ih5 _ _ _ _ _ _ _ _ _ _ _ _
      | exact spec_l1rising.mono _ _ _ _
      | exact LeO.none _
      | refine LeO.ite ?_ ?_
      | refine LeO.bind ?_ (fun _ => ?_)
theorem spec_MsgFault.mono : ∀ a0 a1 a2 a3 a4 a5 a6 a7 a8 a9 k, LeO (spec_MsgFault.f k a0 a1 a2 a3 a4 a5 a6 a7 a8 a9) (spec_MsgFault.f (k + 1) a0 a1 a2 a3 a4 a5 a6 a7 a8 a9) := by
  intro a0 a1 a2 a3 a4 a5 a6 a7 a8 a9 k
  obtain ⟨ih0, ih1, ih2, ih3, ih4, ih5⟩ := spec_MsgFault.mono_l k
  unfold spec_MsgFault.f
  repeat' first
      | (with_reducible exact ih0 _ _ _ _ _ _ _ _ _ _ _ _)
      | (with_reducible exact ih1 _ _ _ _ _ _ _ _ _ _ _ _)
      | (with_reducible exact ih2 _ _ _ _ _ _ _ _ _ _ _ _)
      | (with_reducible exact ih3 _ _ _ _ _ _ _ _ _ _ _ _ _)
      | (with_reducible exact ih4 _ _ _ _ _ _ _ _ _ _ _ _)
      | (with_reducible exact ih5 _ _ _ _ _ _ _ _ _ _ _ _)
      | (with_reducible exact spec_l1rising.mono _ _ _ _)
      | (with_reducible exact LeO.refl _)
      | (with_reducible exact LeO.none _)
      | (with_reducible refine LeO.ite ?_ ?_)
      | (with_reducible refine LeO.bind ?_ (fun _ => ?_))
      | exact ih0 _ _ _ _ _ _ _ _ _ _ _ _
      | exact ih1 _ _ _ _ _ _ _ _ _ _ _ _
      | exact ih2 _ _ _ _ _ _ _ _ _ _ _ _
      | exact ih3 _ _ _ _ _ _ _ _ _ _ _ _ _
      | exact ih4 _ _ _ _ _ _ _ _ _ _ _ _
      | exact ih5 _ _ _ _ _ _ _ _ _ _ _ _
      | exact spec_l1rising.mono _ _ _ _
      | exact LeO.none _
      | refine LeO.ite ?_ ?_
      | refine LeO.bind ?_ (fun _ => ?_)
set_option maxHeartbeats 8000000 in
set_option maxRecDepth 100000 in
theorem spec_MsgFault.calls (k : Nat) (a0_0 : Int) (a0_1 : Int) (a0_2 : Int) (a0_3 : Int) (a0_4 : Int) (a0_5 : Int) (a0_6 : Int) (a0_7 : Int) (a0_8 : Int) (A0_9 : Option Addr) (c0_9 : Nat) (l0_9 : List (S58)) (r : Int) (w : World) (hr0_9 : Kd.C k58 w A0_9 l0_9.length l0_9) (hc0_9 : l0_9.length ≤ c0_9) (h : spec_MsgFault.f k a0_0 a0_1 a0_2 a0_3 a0_4 a0_5 a0_6 a0_7 a0_8 l0_9 = some r) :
    Calls Try.prog 6 #[.agg #[.int .i64 a0_0, .int .i64 a0_1, .int .i64 a0_2, .int .i64 a0_3, .int .i64 a0_4, .int .i64 a0_5, .int .i64 a0_6, .int .i64 a0_7, .int .i64 a0_8, .slice A0_9 l0_9.length c0_9]] w fun e w' => e = .returned (.int .i64 r) ∧ Below w.heap.size w w' := by
  have hu29 := Try.underlying29
  have HR0_9 := Aside0.mk hr0_9
  have HC0_9 := Aside0.mk hc0_9
  clear hr0_9 hc0_9
  have HB := Aside0.mk (Below.refl w.heap.size w)
  have H : ((spec_l1in.f a0_0 1 6).bind fun t118 => (if t118 = true then ((spec_l1in.f a0_1 1 7).bind fun t119 => (if t119 = true then ((spec_l1in.f a0_2 1 7).bind fun t120 => (if t120 = true then (spec_MsgFault.j0 k a0_0 (a0_1 == a0_2) a0_0 a0_1 a0_2 a0_3 a0_4 a0_5 a0_6 a0_7 a0_8 l0_9) else (spec_MsgFault.j0 k a0_0 true a0_0 a0_1 a0_2 a0_3 a0_4 a0_5 a0_6 a0_7 a0_8 l0_9))) else (spec_MsgFault.j0 k a0_0 true a0_0 a0_1 a0_2 a0_3 a0_4 a0_5 a0_6 a0_7 a0_8 l0_9))) else (some 1))) = some r := h
  clear h
  replace H := Option.bind_eq_some_iff.mp H
  obtain ⟨t118, A20, H⟩ := H
  replace H : (if t118 = true then ((spec_l1in.f a0_1 1 7).bind fun t119 => (if t119 = true then ((spec_l1in.f a0_2 1 7).bind fun t120 => (if t120 = true then (spec_MsgFault.j0 k a0_0 (a0_1 == a0_2) a0_0 a0_1 a0_2 a0_3 a0_4 a0_5 a0_6 a0_7 a0_8 l0_9) else (spec_MsgFault.j0 k a0_0 true a0_0 a0_1 a0_2 a0_3 a0_4 a0_5 a0_6 a0_7 a0_8 l0_9))) else (spec_MsgFault.j0 k a0_0 true a0_0 a0_1 a0_2 a0_3 a0_4 a0_5 a0_6 a0_7 a0_8 l0_9))) else (some 1)) = some r := H
  have A2 := Aside0.mk A20
  clear A20
  by_cases c3 : t118 = true
  · subst c3
    have H1 : ((spec_l1in.f a0_1 1 7).bind fun t119 => (if t119 = true then ((spec_l1in.f a0_2 1 7).bind fun t120 => (if t120 = true then (spec_MsgFault.j0 k a0_0 (a0_1 == a0_2) a0_0 a0_1 a0_2 a0_3 a0_4 a0_5 a0_6 a0_7 a0_8 l0_9) else (spec_MsgFault.j0 k a0_0 true a0_0 a0_1 a0_2 a0_3 a0_4 a0_5 a0_6 a0_7 a0_8 l0_9))) else (spec_MsgFault.j0 k a0_0 true a0_0 a0_1 a0_2 a0_3 a0_4 a0_5 a0_6 a0_7 a0_8 l0_9))) = some r := by rw [if_pos rfl] at H; exact H
    clear H
    have H := H1
    clear H1
    have HC4 := Aside0.mk H
    clear H
    go_enter Try.func6, Try.ntmps6
    go_upto_region 4 with (first | ((with_reducible refine gate_dst (N := 1) rfl ?_); (try (refine gate_guard (by rfl) ?_; dsimp only)); refine box_event ?hg (N := 1) ?hd (cs := #[.int .i64 a0_0, .int .i64 a0_1, .int .i64 a0_2, .int .i64 a0_3, .int .i64 a0_4, .int .i64 a0_5, .int .i64 a0_6, .int .i64 a0_7, .int .i64 a0_8, .slice A0_9 l0_9.length c0_9]) (t := 29) ?hr ?_; (case hd => rfl); (case hg => rfl); (case hr => first | (go_simp; done) | (go_simp; rfl)); intro gb117 hg w5 hbox hb; have n0_ := Aside0.mk (below_step (bl HB) hb); have n1_ := Aside0.mk (hbox); have n2_ := Aside0.mk (gS hg (bl HB)); have n3_ := Aside0.mk (gS hg (bl HB)); clear HB; have HB := n0_; have BK117 := n1_; have GW117 := n2_; have GE117 := n3_; clear n0_ n1_ n2_ n3_; clear hb hbox hg; obtain ⟨hcz6_0, hcz6_1, hcz6_2, hcz6_3, hcz6_4, hcz6_5, hcz6_6, hcz6_7, hcz6_8, hcz6_9⟩ := ce10 BK117.out; obtain ⟨hfz6_0, hfz6_1, hfz6_2, hfz6_3, hfz6_4, hfz6_5, hfz6_6, hfz6_7, hfz6_8, hfz6_9⟩ := fr10 BK117.out) | ((with_reducible refine gate_callee (f := 20) rfl ?_); refine goesL_ (some 8) rfl rfl Try.func20 (by kernel_rfl) rfl #[.int .i64 a0_0, .int .i64 1, .int .i64 6] rfl (by (try simp only [List.map_toArray, List.map_cons, List.map_nil]); first | done | rfl | (simp only [List.length_drop, List.length_take]; rfl)) ?_; (with_reducible refine (spec_l1in.calls a0_0 1 6 true _ A2.out).mono ?_); rintro e w' ⟨rfl, ⟨nd, rfl⟩⟩; refine ⟨_, rfl, ?_⟩))
    (try simp only [Act.put, List.setIfInBounds_toArray, List.set_cons_zero, List.set_cons_succ])
    go_cut [26] (fun v26 wc => ∃ (kq : Nat) (x26_3 : Bool), v26 = .bool x26_3 ∧ Aside0 (spec_MsgFault.j0 kq a0_0 x26_3 a0_0 a0_1 a0_2 a0_3 a0_4 a0_5 a0_6 a0_7 a0_8 l0_9 = some r) ∧ Aside0 (kq ≤ k) ∧ Aside0 (wc.heap[gb117]? = some (.cells #[.int .i64 a0_0, .int .i64 a0_1, .int .i64 a0_2, .int .i64 a0_3, .int .i64 a0_4, .int .i64 a0_5, .int .i64 a0_6, .int .i64 a0_7, .int .i64 a0_8, (.slice A0_9 l0_9.length c0_9)] 29 (0, 0))) ∧ Aside0 (Below w.heap.size w wc))
    case first => as_aux_lemma =>
      have H := HC4.out
      clear HC4
      replace H := Option.bind_eq_some_iff.mp H
      obtain ⟨t119, A70, H⟩ := H
      replace H : (if t119 = true then ((spec_l1in.f a0_2 1 7).bind fun t120 => (if t120 = true then (spec_MsgFault.j0 k a0_0 (a0_1 == a0_2) a0_0 a0_1 a0_2 a0_3 a0_4 a0_5 a0_6 a0_7 a0_8 l0_9) else (spec_MsgFault.j0 k a0_0 true a0_0 a0_1 a0_2 a0_3 a0_4 a0_5 a0_6 a0_7 a0_8 l0_9))) else (spec_MsgFault.j0 k a0_0 true a0_0 a0_1 a0_2 a0_3 a0_4 a0_5 a0_6 a0_7 a0_8 l0_9)) = some r := H
      have A7 := Aside0.mk A70
      clear A70
      by_cases c8 : t119 = true
      · subst c8
        have H1 : ((spec_l1in.f a0_2 1 7).bind fun t120 => (if t120 = true then (spec_MsgFault.j0 k a0_0 (a0_1 == a0_2) a0_0 a0_1 a0_2 a0_3 a0_4 a0_5 a0_6 a0_7 a0_8 l0_9) else (spec_MsgFault.j0 k a0_0 true a0_0 a0_1 a0_2 a0_3 a0_4 a0_5 a0_6 a0_7 a0_8 l0_9))) = some r := by rw [if_pos rfl] at H; exact H
        clear H
        have H := H1
        clear H1
        replace H := Option.bind_eq_some_iff.mp H
        obtain ⟨t120, A90, H⟩ := H
        replace H : (if t120 = true then (spec_MsgFault.j0 k a0_0 (a0_1 == a0_2) a0_0 a0_1 a0_2 a0_3 a0_4 a0_5 a0_6 a0_7 a0_8 l0_9) else (spec_MsgFault.j0 k a0_0 true a0_0 a0_1 a0_2 a0_3 a0_4 a0_5 a0_6 a0_7 a0_8 l0_9)) = some r := H
        have A9 := Aside0.mk A90
        clear A90
        by_cases c10 : t120 = true
        · subst c10
          have H1 : (spec_MsgFault.j0 k a0_0 (a0_1 == a0_2) a0_0 a0_1 a0_2 a0_3 a0_4 a0_5 a0_6 a0_7 a0_8 l0_9) = some r := by rw [if_pos rfl] at H; exact H
          clear H
          have H := H1
          clear H1
          have H' := Aside0.mk H
          clear H
          obtain ⟨hcz11_0, hcz11_1, hcz11_2, hcz11_3, hcz11_4, hcz11_5, hcz11_6, hcz11_7, hcz11_8, hcz11_9⟩ := ce10 BK117.out
          obtain ⟨hfz11_0, hfz11_1, hfz11_2, hfz11_3, hfz11_4, hfz11_5, hfz11_6, hfz11_7, hfz11_8, hfz11_9⟩ := fr10 BK117.out
          go_wp2_with (first | ((with_reducible refine gate_callee (f := 20) rfl ?_); refine goesL_ (some 12) rfl rfl Try.func20 (by kernel_rfl) rfl #[.int .i64 a0_1, .int .i64 1, .int .i64 7] rfl (by (try simp only [List.map_toArray, List.map_cons, List.map_nil]); first | done | rfl | (simp only [List.length_drop, List.length_take]; rfl)) ?_; (with_reducible refine (spec_l1in.calls a0_1 1 7 true _ A7.out).mono ?_); rintro e w' ⟨rfl, ⟨nd, rfl⟩⟩; refine ⟨_, rfl, ?_⟩) | (go_at_call 20; (with_reducible refine (spec_l1in.calls a0_2 1 7 true _ A9.out).mono ?_); rintro e w' ⟨rfl, ⟨nd, rfl⟩⟩))
          go_meet
          case rel => exact ⟨_, ((a0_1 == a0_2)), (by first | rfl | (simp; done) | (simp [*]; done)), H', ⟨by first | omega | exact Nat.le_refl _⟩, ⟨bk BK117⟩, ⟨bl HB⟩⟩
        · replace c10 := Bool.eq_false_iff.mpr c10
          subst c10
          have H1 : (spec_MsgFault.j0 k a0_0 true a0_0 a0_1 a0_2 a0_3 a0_4 a0_5 a0_6 a0_7 a0_8 l0_9) = some r := by rw [if_neg (show ¬ (false = true) by decide)] at H; exact H
          clear H
          have H := H1
          clear H1
          have H' := Aside0.mk H
          clear H
          obtain ⟨hcz12_0, hcz12_1, hcz12_2, hcz12_3, hcz12_4, hcz12_5, hcz12_6, hcz12_7, hcz12_8, hcz12_9⟩ := ce10 BK117.out
          obtain ⟨hfz12_0, hfz12_1, hfz12_2, hfz12_3, hfz12_4, hfz12_5, hfz12_6, hfz12_7, hfz12_8, hfz12_9⟩ := fr10 BK117.out
          go_wp2_with (first | ((with_reducible refine gate_callee (f := 20) rfl ?_); refine goesL_ (some 12) rfl rfl Try.func20 (by kernel_rfl) rfl #[.int .i64 a0_1, .int .i64 1, .int .i64 7] rfl (by (try simp only [List.map_toArray, List.map_cons, List.map_nil]); first | done | rfl | (simp only [List.length_drop, List.length_take]; rfl)) ?_; (with_reducible refine (spec_l1in.calls a0_1 1 7 true _ A7.out).mono ?_); rintro e w' ⟨rfl, ⟨nd, rfl⟩⟩; refine ⟨_, rfl, ?_⟩) | (go_at_call 20; (with_reducible refine (spec_l1in.calls a0_2 1 7 false _ A9.out).mono ?_); rintro e w' ⟨rfl, ⟨nd, rfl⟩⟩))
          go_meet
          case rel => exact ⟨_, (true), (by first | rfl | (simp; done) | (simp [*]; done)), H', ⟨by first | omega | exact Nat.le_refl _⟩, ⟨bk BK117⟩, ⟨bl HB⟩⟩
      · replace c8 := Bool.eq_false_iff.mpr c8
        subst c8
        have H1 : (spec_MsgFault.j0 k a0_0 true a0_0 a0_1 a0_2 a0_3 a0_4 a0_5 a0_6 a0_7 a0_8 l0_9) = some r := by rw [if_neg (show ¬ (false = true) by decide)] at H; exact H
        clear H
        have H := H1
        clear H1
        have H' := Aside0.mk H
        clear H
        obtain ⟨hcz13_0, hcz13_1, hcz13_2, hcz13_3, hcz13_4, hcz13_5, hcz13_6, hcz13_7, hcz13_8, hcz13_9⟩ := ce10 BK117.out
        obtain ⟨hfz13_0, hfz13_1, hfz13_2, hfz13_3, hfz13_4, hfz13_5, hfz13_6, hfz13_7, hfz13_8, hfz13_9⟩ := fr10 BK117.out
        go_wp2_with (first | ((with_reducible refine gate_callee (f := 20) rfl ?_); refine goesL_ (some 12) rfl rfl Try.func20 (by kernel_rfl) rfl #[.int .i64 a0_1, .int .i64 1, .int .i64 7] rfl (by (try simp only [List.map_toArray, List.map_cons, List.map_nil]); first | done | rfl | (simp only [List.length_drop, List.length_take]; rfl)) ?_; (with_reducible refine (spec_l1in.calls a0_1 1 7 false _ A7.out).mono ?_); rintro e w' ⟨rfl, ⟨nd, rfl⟩⟩; refine ⟨_, rfl, ?_⟩))
        go_meet
        case rel => exact ⟨_, (true), (by first | rfl | (simp; done) | (simp [*]; done)), H', ⟨by first | omega | exact Nat.le_refl _⟩, ⟨bk BK117⟩, ⟨bl HB⟩⟩
    case rest => as_aux_lemma =>
      clear HC4
      try clear c1
      try clear c2
      try clear p2
      try clear c3
      try clear c6
      try clear c8
      try clear c10
      try clear hcz11_0 hcz11_1 hcz11_2 hcz11_3 hcz11_4 hcz11_5 hcz11_6 hcz11_7 hcz11_8 hcz11_9
      try clear hcz12_0 hcz12_1 hcz12_2 hcz12_3 hcz12_4 hcz12_5 hcz12_6 hcz12_7 hcz12_8 hcz12_9
      try clear hcz13_0 hcz13_1 hcz13_2 hcz13_3 hcz13_4 hcz13_5 hcz13_6 hcz13_7 hcz13_8 hcz13_9
      try clear hcz6_0 hcz6_1 hcz6_2 hcz6_3 hcz6_4 hcz6_5 hcz6_6 hcz6_7 hcz6_8 hcz6_9
      try clear hfz11_0 hfz11_1 hfz11_2 hfz11_3 hfz11_4 hfz11_5 hfz11_6 hfz11_7 hfz11_8 hfz11_9
      try clear hfz12_0 hfz12_1 hfz12_2 hfz12_3 hfz12_4 hfz12_5 hfz12_6 hfz12_7 hfz12_8 hfz12_9
      try clear hfz13_0 hfz13_1 hfz13_2 hfz13_3 hfz13_4 hfz13_5 hfz13_6 hfz13_7 hfz13_8 hfz13_9
      try clear hfz6_0 hfz6_1 hfz6_2 hfz6_3 hfz6_4 hfz6_5 hfz6_6 hfz6_7 hfz6_8 hfz6_9
      obtain ⟨kq, x26_3, rfl, HA, HJ3, BK117, HB⟩ := hcut
      cases kq with
      | zero => exact absurd HA.out (by simp [spec_MsgFault.j0])
      | succ kj3 =>
        have H := HA.out
        clear HA
        simp only [spec_MsgFault.j0] at H
        by_cases c14 : x26_3 = true
        · subst c14
          have H1 : (some 2) = some r := by rw [if_pos rfl] at H; exact H
          clear H
          have H := H1
          clear H1
          obtain rfl := Option.some.inj H
          go_wp2
          go_ret
          exact ⟨by first | rfl | (simp [errW_none, errW_some] <;> rfl) | (simp [*, errW_none, errW_some] <;> rfl), bl HB⟩
        · replace c14 := Bool.eq_false_iff.mpr c14
          subst c14
          have H1 : ((spec_l1in.f a0_3 1 1073741824).bind fun t121 => (if t121 = true then (if a0_0 = 1 then (spec_MsgFault.j1 kj3 a0_0 true a0_0 a0_1 a0_2 a0_3 a0_4 a0_5 a0_6 a0_7 a0_8 l0_9) else (if a0_0 = 3 then (spec_MsgFault.j1 kj3 a0_0 true a0_0 a0_1 a0_2 a0_3 a0_4 a0_5 a0_6 a0_7 a0_8 l0_9) else (spec_MsgFault.j1 kj3 a0_0 (a0_0 == 5) a0_0 a0_1 a0_2 a0_3 a0_4 a0_5 a0_6 a0_7 a0_8 l0_9))) else (some 3))) = some r := by rw [if_neg (show ¬ (false = true) by decide)] at H; exact H
          clear H
          have H := H1
          clear H1
          replace H := Option.bind_eq_some_iff.mp H
          obtain ⟨t121, A150, H⟩ := H
          replace H : (if t121 = true then (if a0_0 = 1 then (spec_MsgFault.j1 kj3 a0_0 true a0_0 a0_1 a0_2 a0_3 a0_4 a0_5 a0_6 a0_7 a0_8 l0_9) else (if a0_0 = 3 then (spec_MsgFault.j1 kj3 a0_0 true a0_0 a0_1 a0_2 a0_3 a0_4 a0_5 a0_6 a0_7 a0_8 l0_9) else (spec_MsgFault.j1 kj3 a0_0 (a0_0 == 5) a0_0 a0_1 a0_2 a0_3 a0_4 a0_5 a0_6 a0_7 a0_8 l0_9))) else (some 3)) = some r := H
          have A15 := Aside0.mk A150
          clear A150
          by_cases c16 : t121 = true
          · subst c16
            have H1 : (if a0_0 = 1 then (spec_MsgFault.j1 kj3 a0_0 true a0_0 a0_1 a0_2 a0_3 a0_4 a0_5 a0_6 a0_7 a0_8 l0_9) else (if a0_0 = 3 then (spec_MsgFault.j1 kj3 a0_0 true a0_0 a0_1 a0_2 a0_3 a0_4 a0_5 a0_6 a0_7 a0_8 l0_9) else (spec_MsgFault.j1 kj3 a0_0 (a0_0 == 5) a0_0 a0_1 a0_2 a0_3 a0_4 a0_5 a0_6 a0_7 a0_8 l0_9))) = some r := by rw [if_pos rfl] at H; exact H
            clear H
            have H := H1
            clear H1
            have HC17 := Aside0.mk H
            clear H
            obtain ⟨hcz18_0, hcz18_1, hcz18_2, hcz18_3, hcz18_4, hcz18_5, hcz18_6, hcz18_7, hcz18_8, hcz18_9⟩ := ce10 BK117.out
            obtain ⟨hfz18_0, hfz18_1, hfz18_2, hfz18_3, hfz18_4, hfz18_5, hfz18_6, hfz18_7, hfz18_8, hfz18_9⟩ := fr10 BK117.out
            go_upto_region 8 with (first | ((with_reducible refine gate_callee (f := 20) rfl ?_); refine goesL_ (some 29) rfl rfl Try.func20 (by kernel_rfl) rfl #[.int .i64 a0_3, .int .i64 1, .int .i64 1073741824] rfl (by (try simp only [List.map_toArray, List.map_cons, List.map_nil]); first | done | rfl | (simp only [List.length_drop, List.length_take]; rfl)) ?_; (with_reducible refine (spec_l1in.calls a0_3 1 1073741824 true _ A15.out).mono ?_); rintro e w' ⟨rfl, ⟨nd, rfl⟩⟩; refine ⟨_, rfl, ?_⟩))
            (try simp only [Act.put, List.setIfInBounds_toArray, List.set_cons_zero, List.set_cons_succ])
            go_cut [4] (fun v4 wc => ∃ (kq : Nat) (x4_16 : Bool), v4 = .bool x4_16 ∧ Aside0 (spec_MsgFault.j1 kq a0_0 x4_16 a0_0 a0_1 a0_2 a0_3 a0_4 a0_5 a0_6 a0_7 a0_8 l0_9 = some r) ∧ Aside0 (kq ≤ kj3) ∧ Aside0 (wc.heap[gb117]? = some (.cells #[.int .i64 a0_0, .int .i64 a0_1, .int .i64 a0_2, .int .i64 a0_3, .int .i64 a0_4, .int .i64 a0_5, .int .i64 a0_6, .int .i64 a0_7, .int .i64 a0_8, (.slice A0_9 l0_9.length c0_9)] 29 (0, 0))) ∧ Aside0 (Below w.heap.size w wc))
            case first => as_aux_lemma =>
              have H := HC17.out
              clear HC17
              by_cases c19 : a0_0 = 1
              · rw [if_pos c19] at H
                have c19b0 : (a0_0 == 1) = true := beq_iff_eq.mpr c19
                have c19b1 : (a0_0 != 1) = false := bne_eq_false_iff_eq.mpr c19
                clear c19
                (first | rw [c19b0] | (simp only [i64_w, i32_w]; rw [c19b0]) | skip)
                have H' := Aside0.mk H
                clear H
                go_wp2
                go_meet
                case rel => exact ⟨_, (true), (by first | rfl | (simp; done) | (simp [*]; done)), H', ⟨by have := HJ3.out; first | omega | exact Nat.le_refl _⟩, ⟨bk BK117⟩, ⟨bl HB⟩⟩
              · rw [if_neg c19] at H
                have c19b0 : (a0_0 == 1) = false := beq_eq_false_iff_ne.mpr c19
                have c19b1 : (a0_0 != 1) = true := bne_iff_ne.mpr c19
                (first | rw [c19b0] | (simp only [i64_w, i32_w]; rw [c19b0]) | skip)
                by_cases c20 : a0_0 = 3
                · rw [if_pos c20] at H
                  have c20b0 : (a0_0 == 3) = true := beq_iff_eq.mpr c20
                  have c20b1 : (a0_0 != 3) = false := bne_eq_false_iff_eq.mpr c20
                  clear c20
                  have H' := Aside0.mk H
                  clear H
                  go_wp2
                  go_meet
                  case rel => exact ⟨_, (true), (by first | rfl | (simp; done) | (simp [*]; done)), H', ⟨by have := HJ3.out; first | omega | exact Nat.le_refl _⟩, ⟨bk BK117⟩, ⟨bl HB⟩⟩
                · rw [if_neg c20] at H
                  have c20b0 : (a0_0 == 3) = false := beq_eq_false_iff_ne.mpr c20
                  have c20b1 : (a0_0 != 3) = true := bne_iff_ne.mpr c20
                  have H' := Aside0.mk H
                  clear H
                  go_wp2
                  go_meet
                  case rel => exact ⟨_, ((a0_0 == 5)), (by first | rfl | (simp; done) | (simp [*]; done)), H', ⟨by have := HJ3.out; first | omega | exact Nat.le_refl _⟩, ⟨bk BK117⟩, ⟨bl HB⟩⟩
            case rest => as_aux_lemma =>
              clear HC17
              try clear c1
              try clear c2
              try clear p2
              try clear c3
              try clear c6
              try clear c8
              try clear c10
              try clear c14
              try clear c16
              try clear c19
              try clear c19b0
              try clear c19b1
              try clear c20
              try clear c20b0
              try clear c20b1
              try clear hcz11_0 hcz11_1 hcz11_2 hcz11_3 hcz11_4 hcz11_5 hcz11_6 hcz11_7 hcz11_8 hcz11_9
              try clear hcz12_0 hcz12_1 hcz12_2 hcz12_3 hcz12_4 hcz12_5 hcz12_6 hcz12_7 hcz12_8 hcz12_9
              try clear hcz13_0 hcz13_1 hcz13_2 hcz13_3 hcz13_4 hcz13_5 hcz13_6 hcz13_7 hcz13_8 hcz13_9
              try clear hcz18_0 hcz18_1 hcz18_2 hcz18_3 hcz18_4 hcz18_5 hcz18_6 hcz18_7 hcz18_8 hcz18_9
              try clear hcz6_0 hcz6_1 hcz6_2 hcz6_3 hcz6_4 hcz6_5 hcz6_6 hcz6_7 hcz6_8 hcz6_9
              try clear hfz11_0 hfz11_1 hfz11_2 hfz11_3 hfz11_4 hfz11_5 hfz11_6 hfz11_7 hfz11_8 hfz11_9
              try clear hfz12_0 hfz12_1 hfz12_2 hfz12_3 hfz12_4 hfz12_5 hfz12_6 hfz12_7 hfz12_8 hfz12_9
              try clear hfz13_0 hfz13_1 hfz13_2 hfz13_3 hfz13_4 hfz13_5 hfz13_6 hfz13_7 hfz13_8 hfz13_9
              try clear hfz18_0 hfz18_1 hfz18_2 hfz18_3 hfz18_4 hfz18_5 hfz18_6 hfz18_7 hfz18_8 hfz18_9
              try clear hfz6_0 hfz6_1 hfz6_2 hfz6_3 hfz6_4 hfz6_5 hfz6_6 hfz6_7 hfz6_8 hfz6_9
              try clear p2
              obtain ⟨kq, x4_16, rfl, HA, HJ16, BK117, HB⟩ := hcut
              cases kq with
              | zero => exact absurd HA.out (by simp [spec_MsgFault.j1])
              | succ kj16 =>
                have H := HA.out
                clear HA
                simp only [spec_MsgFault.j1] at H
                have HC21 := Aside0.mk H
                clear H
                go_upto_if 41 with (fail)
                go_cut [] (fun wc => ∃ (kq : Nat), Aside0 (spec_MsgFault.j2 kq a0_0 x4_16 a0_0 a0_1 a0_2 a0_3 a0_4 a0_5 a0_6 a0_7 a0_8 l0_9 = some r) ∧ Aside0 (kq ≤ kj16) ∧ Aside0 (wc.heap[gb117]? = some (.cells #[.int .i64 a0_0, .int .i64 a0_1, .int .i64 a0_2, .int .i64 a0_3, .int .i64 a0_4, .int .i64 a0_5, .int .i64 a0_6, .int .i64 a0_7, .int .i64 a0_8, (.slice A0_9 l0_9.length c0_9)] 29 (0, 0))) ∧ Aside0 (Below w.heap.size w wc))
                case first => as_aux_lemma =>
                  have H := HC21.out
                  clear HC21
                  by_cases c22 : x4_16 = true
                  · subst c22
                    have H1 : ((spec_l1in.f a0_4 0 4096).bind fun t122 => (if t122 = true then ((spec_l1in.f a0_5 0 a0_3).bind fun t123 => (if t123 = true then (if ((a0_4 == 0) != (a0_5 == 0)) = true then (some 4) else (spec_MsgFault.j2 kj16 a0_0 true a0_0 a0_1 a0_2 a0_3 a0_4 a0_5 a0_6 a0_7 a0_8 l0_9)) else (some 4))) else (some 4))) = some r := by rw [if_pos rfl] at H; exact H
                    clear H
                    have H := H1
                    clear H1
                    replace H := Option.bind_eq_some_iff.mp H
                    obtain ⟨t122, A230, H⟩ := H
                    replace H : (if t122 = true then ((spec_l1in.f a0_5 0 a0_3).bind fun t123 => (if t123 = true then (if ((a0_4 == 0) != (a0_5 == 0)) = true then (some 4) else (spec_MsgFault.j2 kj16 a0_0 true a0_0 a0_1 a0_2 a0_3 a0_4 a0_5 a0_6 a0_7 a0_8 l0_9)) else (some 4))) else (some 4)) = some r := H
                    have A23 := Aside0.mk A230
                    clear A230
                    by_cases c24 : t122 = true
                    · subst c24
                      have H1 : ((spec_l1in.f a0_5 0 a0_3).bind fun t123 => (if t123 = true then (if ((a0_4 == 0) != (a0_5 == 0)) = true then (some 4) else (spec_MsgFault.j2 kj16 a0_0 true a0_0 a0_1 a0_2 a0_3 a0_4 a0_5 a0_6 a0_7 a0_8 l0_9)) else (some 4))) = some r := by rw [if_pos rfl] at H; exact H
                      clear H
                      have H := H1
                      clear H1
                      replace H := Option.bind_eq_some_iff.mp H
                      obtain ⟨t123, A250, H⟩ := H
                      replace H : (if t123 = true then (if ((a0_4 == 0) != (a0_5 == 0)) = true then (some 4) else (spec_MsgFault.j2 kj16 a0_0 true a0_0 a0_1 a0_2 a0_3 a0_4 a0_5 a0_6 a0_7 a0_8 l0_9)) else (some 4)) = some r := H
                      have A25 := Aside0.mk A250
                      clear A250
                      by_cases c26 : t123 = true
                      · subst c26
                        have H1 : (if ((a0_4 == 0) != (a0_5 == 0)) = true then (some 4) else (spec_MsgFault.j2 kj16 a0_0 true a0_0 a0_1 a0_2 a0_3 a0_4 a0_5 a0_6 a0_7 a0_8 l0_9)) = some r := by rw [if_pos rfl] at H; exact H
                        clear H
                        have H := H1
                        clear H1
                        by_cases c27 : ((a0_4 == 0) != (a0_5 == 0)) = true
                        · rw [if_pos c27] at H
                          have c27b0 : ((a0_4 == 0) != (a0_5 == 0)) = true := c27
                          (try (have c27b1 : decide ((a0_4 == 0) = (a0_5 == 0)) = false := by simpa using c27))
                          (try (have c27b2 : ((a0_4 == 0) == (a0_5 == 0)) = false := by simpa using c27))
                          (try (have c27b3 : ¬ ((a0_4 == 0) = (a0_5 == 0)) := by simpa using c27))
                          clear c27
                          (first | rw [c27b0] | (simp only [i64_w, i32_w]; rw [c27b0]) | skip)
                          obtain rfl := Option.some.inj H
                          obtain ⟨hcz28_0, hcz28_1, hcz28_2, hcz28_3, hcz28_4, hcz28_5, hcz28_6, hcz28_7, hcz28_8, hcz28_9⟩ := ce10 BK117.out
                          obtain ⟨hfz28_0, hfz28_1, hfz28_2, hfz28_3, hfz28_4, hfz28_5, hfz28_6, hfz28_7, hfz28_8, hfz28_9⟩ := fr10 BK117.out
                          go_wp2_with (first | ((with_reducible refine gate_callee (f := 20) rfl ?_); refine goesL_ (some 44) rfl rfl Try.func20 (by kernel_rfl) rfl #[.int .i64 a0_4, .int .i64 0, .int .i64 4096] rfl (by (try simp only [List.map_toArray, List.map_cons, List.map_nil]); first | done | rfl | (simp only [List.length_drop, List.length_take]; rfl)) ?_; (with_reducible refine (spec_l1in.calls a0_4 0 4096 true _ A23.out).mono ?_); rintro e w' ⟨rfl, ⟨nd, rfl⟩⟩; refine ⟨_, rfl, ?_⟩) | (go_at_call 20; (with_reducible refine (spec_l1in.calls a0_5 0 a0_3 true _ A25.out).mono ?_); rintro e w' ⟨rfl, ⟨nd, rfl⟩⟩))
                          go_ret
                          exact ⟨by first | rfl | (simp [errW_none, errW_some] <;> rfl) | (simp [*, errW_none, errW_some] <;> rfl), bl HB⟩
                        · rw [if_neg c27] at H
                          have c27b0 : ((a0_4 == 0) != (a0_5 == 0)) = false := by simpa using c27
                          (try (have c27b1 : decide ((a0_4 == 0) = (a0_5 == 0)) = true := by simpa using c27))
                          (try (have c27b2 : ((a0_4 == 0) == (a0_5 == 0)) = true := by simpa using c27))
                          clear c27
                          (first | rw [c27b0] | (simp only [i64_w, i32_w]; rw [c27b0]) | skip)
                          have H' := Aside0.mk H
                          clear H
                          obtain ⟨hcz29_0, hcz29_1, hcz29_2, hcz29_3, hcz29_4, hcz29_5, hcz29_6, hcz29_7, hcz29_8, hcz29_9⟩ := ce10 BK117.out
                          obtain ⟨hfz29_0, hfz29_1, hfz29_2, hfz29_3, hfz29_4, hfz29_5, hfz29_6, hfz29_7, hfz29_8, hfz29_9⟩ := fr10 BK117.out
                          go_wp2_with (first | ((with_reducible refine gate_callee (f := 20) rfl ?_); refine goesL_ (some 44) rfl rfl Try.func20 (by kernel_rfl) rfl #[.int .i64 a0_4, .int .i64 0, .int .i64 4096] rfl (by (try simp only [List.map_toArray, List.map_cons, List.map_nil]); first | done | rfl | (simp only [List.length_drop, List.length_take]; rfl)) ?_; (with_reducible refine (spec_l1in.calls a0_4 0 4096 true _ A23.out).mono ?_); rintro e w' ⟨rfl, ⟨nd, rfl⟩⟩; refine ⟨_, rfl, ?_⟩) | (go_at_call 20; (with_reducible refine (spec_l1in.calls a0_5 0 a0_3 true _ A25.out).mono ?_); rintro e w' ⟨rfl, ⟨nd, rfl⟩⟩))
                          go_meet
                          case rel => exact ⟨_, H', ⟨by have := HJ3.out; have := HJ16.out; first | omega | exact Nat.le_refl _⟩, ⟨bk BK117⟩, ⟨bl HB⟩⟩
                      · replace c26 := Bool.eq_false_iff.mpr c26
                        subst c26
                        have H1 : (some 4) = some r := by rw [if_neg (show ¬ (false = true) by decide)] at H; exact H
                        clear H
                        have H := H1
                        clear H1
                        obtain rfl := Option.some.inj H
                        obtain ⟨hcz30_0, hcz30_1, hcz30_2, hcz30_3, hcz30_4, hcz30_5, hcz30_6, hcz30_7, hcz30_8, hcz30_9⟩ := ce10 BK117.out
                        obtain ⟨hfz30_0, hfz30_1, hfz30_2, hfz30_3, hfz30_4, hfz30_5, hfz30_6, hfz30_7, hfz30_8, hfz30_9⟩ := fr10 BK117.out
                        go_wp2_with (first | ((with_reducible refine gate_callee (f := 20) rfl ?_); refine goesL_ (some 44) rfl rfl Try.func20 (by kernel_rfl) rfl #[.int .i64 a0_4, .int .i64 0, .int .i64 4096] rfl (by (try simp only [List.map_toArray, List.map_cons, List.map_nil]); first | done | rfl | (simp only [List.length_drop, List.length_take]; rfl)) ?_; (with_reducible refine (spec_l1in.calls a0_4 0 4096 true _ A23.out).mono ?_); rintro e w' ⟨rfl, ⟨nd, rfl⟩⟩; refine ⟨_, rfl, ?_⟩) | (go_at_call 20; (with_reducible refine (spec_l1in.calls a0_5 0 a0_3 false _ A25.out).mono ?_); rintro e w' ⟨rfl, ⟨nd, rfl⟩⟩))
                        go_ret
                        exact ⟨by first | rfl | (simp [errW_none, errW_some] <;> rfl) | (simp [*, errW_none, errW_some] <;> rfl), bl HB⟩
                    · replace c24 := Bool.eq_false_iff.mpr c24
                      subst c24
                      have H1 : (some 4) = some r := by rw [if_neg (show ¬ (false = true) by decide)] at H; exact H
                      clear H
                      have H := H1
                      clear H1
                      obtain rfl := Option.some.inj H
                      obtain ⟨hcz31_0, hcz31_1, hcz31_2, hcz31_3, hcz31_4, hcz31_5, hcz31_6, hcz31_7, hcz31_8, hcz31_9⟩ := ce10 BK117.out
                      obtain ⟨hfz31_0, hfz31_1, hfz31_2, hfz31_3, hfz31_4, hfz31_5, hfz31_6, hfz31_7, hfz31_8, hfz31_9⟩ := fr10 BK117.out
                      go_wp2_with (first | ((with_reducible refine gate_callee (f := 20) rfl ?_); refine goesL_ (some 44) rfl rfl Try.func20 (by kernel_rfl) rfl #[.int .i64 a0_4, .int .i64 0, .int .i64 4096] rfl (by (try simp only [List.map_toArray, List.map_cons, List.map_nil]); first | done | rfl | (simp only [List.length_drop, List.length_take]; rfl)) ?_; (with_reducible refine (spec_l1in.calls a0_4 0 4096 false _ A23.out).mono ?_); rintro e w' ⟨rfl, ⟨nd, rfl⟩⟩; refine ⟨_, rfl, ?_⟩))
                      go_ret
                      exact ⟨by first | rfl | (simp [errW_none, errW_some] <;> rfl) | (simp [*, errW_none, errW_some] <;> rfl), bl HB⟩
                  · replace c22 := Bool.eq_false_iff.mpr c22
                    subst c22
                    have H1 : (if a0_5 = 0 then (if a0_4 < 0 then (some 4) else (if a0_4 > 4096 then (some 4) else (if a0_0 = 6 then (spec_MsgFault.j2 kj16 a0_0 false a0_0 a0_1 a0_2 a0_3 a0_4 a0_5 a0_6 a0_7 a0_8 l0_9) else (if a0_4 = 0 then (spec_MsgFault.j2 kj16 a0_0 false a0_0 a0_1 a0_2 a0_3 a0_4 a0_5 a0_6 a0_7 a0_8 l0_9) else (some 4))))) else (some 4)) = some r := by rw [if_neg (show ¬ (false = true) by decide)] at H; exact H
                    clear H
                    have H := H1
                    clear H1
                    by_cases c32 : a0_5 = 0
                    · rw [if_pos c32] at H
                      have c32b0 : (a0_5 == 0) = true := beq_iff_eq.mpr c32
                      have c32b1 : (a0_5 != 0) = false := bne_eq_false_iff_eq.mpr c32
                      clear c32
                      by_cases c33 : a0_4 < 0
                      · rw [if_pos c33] at H
                        have c33b0 : decide (a0_4 < 0) = true := decide_eq_true c33
                        clear c33
                        obtain rfl := Option.some.inj H
                        obtain ⟨hcz34_0, hcz34_1, hcz34_2, hcz34_3, hcz34_4, hcz34_5, hcz34_6, hcz34_7, hcz34_8, hcz34_9⟩ := ce10 BK117.out
                        obtain ⟨hfz34_0, hfz34_1, hfz34_2, hfz34_3, hfz34_4, hfz34_5, hfz34_6, hfz34_7, hfz34_8, hfz34_9⟩ := fr10 BK117.out
                        go_wp2
                        go_ret
                        exact ⟨by first | rfl | (simp [errW_none, errW_some] <;> rfl) | (simp [*, errW_none, errW_some] <;> rfl), bl HB⟩
                      · rw [if_neg c33] at H
                        have c33b0 : decide (a0_4 < 0) = false := decide_eq_false c33
                        clear c33
                        by_cases c35 : a0_4 > 4096
                        · rw [if_pos c35] at H
                          have c35b0 : decide (4096 < a0_4) = true := decide_eq_true c35
                          clear c35
                          obtain rfl := Option.some.inj H
                          obtain ⟨hcz36_0, hcz36_1, hcz36_2, hcz36_3, hcz36_4, hcz36_5, hcz36_6, hcz36_7, hcz36_8, hcz36_9⟩ := ce10 BK117.out
                          obtain ⟨hfz36_0, hfz36_1, hfz36_2, hfz36_3, hfz36_4, hfz36_5, hfz36_6, hfz36_7, hfz36_8, hfz36_9⟩ := fr10 BK117.out
                          go_wp2
                          go_ret
                          exact ⟨by first | rfl | (simp [errW_none, errW_some] <;> rfl) | (simp [*, errW_none, errW_some] <;> rfl), bl HB⟩
                        · rw [if_neg c35] at H
                          have c35b0 : decide (4096 < a0_4) = false := decide_eq_false c35
                          clear c35
                          by_cases c37 : a0_0 = 6
                          · rw [if_pos c37] at H
                            have c37b0 : (a0_0 == 6) = true := beq_iff_eq.mpr c37
                            have c37b1 : (a0_0 != 6) = false := bne_eq_false_iff_eq.mpr c37
                            clear c37
                            have H' := Aside0.mk H
                            clear H
                            obtain ⟨hcz38_0, hcz38_1, hcz38_2, hcz38_3, hcz38_4, hcz38_5, hcz38_6, hcz38_7, hcz38_8, hcz38_9⟩ := ce10 BK117.out
                            obtain ⟨hfz38_0, hfz38_1, hfz38_2, hfz38_3, hfz38_4, hfz38_5, hfz38_6, hfz38_7, hfz38_8, hfz38_9⟩ := fr10 BK117.out
                            go_wp2
                            go_meet
                            case rel => exact ⟨_, H', ⟨by have := HJ3.out; have := HJ16.out; first | omega | exact Nat.le_refl _⟩, ⟨bk BK117⟩, ⟨bl HB⟩⟩
                          · rw [if_neg c37] at H
                            have c37b0 : (a0_0 == 6) = false := beq_eq_false_iff_ne.mpr c37
                            have c37b1 : (a0_0 != 6) = true := bne_iff_ne.mpr c37
                            by_cases c39 : a0_4 = 0
                            · rw [if_pos c39] at H
                              have c39b0 : (a0_4 == 0) = true := beq_iff_eq.mpr c39
                              have c39b1 : (a0_4 != 0) = false := bne_eq_false_iff_eq.mpr c39
                              clear c39
                              have H' := Aside0.mk H
                              clear H
                              obtain ⟨hcz40_0, hcz40_1, hcz40_2, hcz40_3, hcz40_4, hcz40_5, hcz40_6, hcz40_7, hcz40_8, hcz40_9⟩ := ce10 BK117.out
                              obtain ⟨hfz40_0, hfz40_1, hfz40_2, hfz40_3, hfz40_4, hfz40_5, hfz40_6, hfz40_7, hfz40_8, hfz40_9⟩ := fr10 BK117.out
                              go_wp2
                              go_meet
                              case rel => exact ⟨_, H', ⟨by have := HJ3.out; have := HJ16.out; first | omega | exact Nat.le_refl _⟩, ⟨bk BK117⟩, ⟨bl HB⟩⟩
                            · rw [if_neg c39] at H
                              have c39b0 : (a0_4 == 0) = false := beq_eq_false_iff_ne.mpr c39
                              have c39b1 : (a0_4 != 0) = true := bne_iff_ne.mpr c39
                              obtain rfl := Option.some.inj H
                              obtain ⟨hcz41_0, hcz41_1, hcz41_2, hcz41_3, hcz41_4, hcz41_5, hcz41_6, hcz41_7, hcz41_8, hcz41_9⟩ := ce10 BK117.out
                              obtain ⟨hfz41_0, hfz41_1, hfz41_2, hfz41_3, hfz41_4, hfz41_5, hfz41_6, hfz41_7, hfz41_8, hfz41_9⟩ := fr10 BK117.out
                              go_wp2
                              go_ret
                              exact ⟨by first | rfl | (simp [errW_none, errW_some] <;> rfl) | (simp [*, errW_none, errW_some] <;> rfl), bl HB⟩
                    · rw [if_neg c32] at H
                      have c32b0 : (a0_5 == 0) = false := beq_eq_false_iff_ne.mpr c32
                      have c32b1 : (a0_5 != 0) = true := bne_iff_ne.mpr c32
                      obtain rfl := Option.some.inj H
                      obtain ⟨hcz42_0, hcz42_1, hcz42_2, hcz42_3, hcz42_4, hcz42_5, hcz42_6, hcz42_7, hcz42_8, hcz42_9⟩ := ce10 BK117.out
                      obtain ⟨hfz42_0, hfz42_1, hfz42_2, hfz42_3, hfz42_4, hfz42_5, hfz42_6, hfz42_7, hfz42_8, hfz42_9⟩ := fr10 BK117.out
                      go_wp2
                      go_ret
                      exact ⟨by first | rfl | (simp [errW_none, errW_some] <;> rfl) | (simp [*, errW_none, errW_some] <;> rfl), bl HB⟩
                case rest => as_aux_lemma =>
                  clear HC21
                  try clear c1
                  try clear c2
                  try clear p2
                  try clear c3
                  try clear c6
                  try clear c8
                  try clear c10
                  try clear c14
                  try clear c16
                  try clear c19
                  try clear c19b0
                  try clear c19b1
                  try clear c20
                  try clear c20b0
                  try clear c20b1
                  try clear c22
                  try clear c24
                  try clear c26
                  try clear c27
                  try clear c27b0
                  try clear c27b1
                  try clear c27b2
                  try clear c32
                  try clear c32b0
                  try clear c32b1
                  try clear c33
                  try clear c33b0
                  try clear c35
                  try clear c35b0
                  try clear c37
                  try clear c37b0
                  try clear c37b1
                  try clear c39
                  try clear c39b0
                  try clear c39b1
                  try clear hcz11_0 hcz11_1 hcz11_2 hcz11_3 hcz11_4 hcz11_5 hcz11_6 hcz11_7 hcz11_8 hcz11_9
                  try clear hcz12_0 hcz12_1 hcz12_2 hcz12_3 hcz12_4 hcz12_5 hcz12_6 hcz12_7 hcz12_8 hcz12_9
                  try clear hcz13_0 hcz13_1 hcz13_2 hcz13_3 hcz13_4 hcz13_5 hcz13_6 hcz13_7 hcz13_8 hcz13_9
                  try clear hcz18_0 hcz18_1 hcz18_2 hcz18_3 hcz18_4 hcz18_5 hcz18_6 hcz18_7 hcz18_8 hcz18_9
                  try clear hcz28_0 hcz28_1 hcz28_2 hcz28_3 hcz28_4 hcz28_5 hcz28_6 hcz28_7 hcz28_8 hcz28_9
                  try clear hcz29_0 hcz29_1 hcz29_2 hcz29_3 hcz29_4 hcz29_5 hcz29_6 hcz29_7 hcz29_8 hcz29_9
                  try clear hcz30_0 hcz30_1 hcz30_2 hcz30_3 hcz30_4 hcz30_5 hcz30_6 hcz30_7 hcz30_8 hcz30_9
                  try clear hcz31_0 hcz31_1 hcz31_2 hcz31_3 hcz31_4 hcz31_5 hcz31_6 hcz31_7 hcz31_8 hcz31_9
                  try clear hcz34_0 hcz34_1 hcz34_2 hcz34_3 hcz34_4 hcz34_5 hcz34_6 hcz34_7 hcz34_8 hcz34_9
                  try clear hcz36_0 hcz36_1 hcz36_2 hcz36_3 hcz36_4 hcz36_5 hcz36_6 hcz36_7 hcz36_8 hcz36_9
                  try clear hcz38_0 hcz38_1 hcz38_2 hcz38_3 hcz38_4 hcz38_5 hcz38_6 hcz38_7 hcz38_8 hcz38_9
                  try clear hcz40_0 hcz40_1 hcz40_2 hcz40_3 hcz40_4 hcz40_5 hcz40_6 hcz40_7 hcz40_8 hcz40_9
                  try clear hcz41_0 hcz41_1 hcz41_2 hcz41_3 hcz41_4 hcz41_5 hcz41_6 hcz41_7 hcz41_8 hcz41_9
                  try clear hcz42_0 hcz42_1 hcz42_2 hcz42_3 hcz42_4 hcz42_5 hcz42_6 hcz42_7 hcz42_8 hcz42_9
                  try clear hcz6_0 hcz6_1 hcz6_2 hcz6_3 hcz6_4 hcz6_5 hcz6_6 hcz6_7 hcz6_8 hcz6_9
                  try clear hfz11_0 hfz11_1 hfz11_2 hfz11_3 hfz11_4 hfz11_5 hfz11_6 hfz11_7 hfz11_8 hfz11_9
                  try clear hfz12_0 hfz12_1 hfz12_2 hfz12_3 hfz12_4 hfz12_5 hfz12_6 hfz12_7 hfz12_8 hfz12_9
                  try clear hfz13_0 hfz13_1 hfz13_2 hfz13_3 hfz13_4 hfz13_5 hfz13_6 hfz13_7 hfz13_8 hfz13_9
                  try clear hfz18_0 hfz18_1 hfz18_2 hfz18_3 hfz18_4 hfz18_5 hfz18_6 hfz18_7 hfz18_8 hfz18_9
                  try clear hfz28_0 hfz28_1 hfz28_2 hfz28_3 hfz28_4 hfz28_5 hfz28_6 hfz28_7 hfz28_8 hfz28_9
                  try clear hfz29_0 hfz29_1 hfz29_2 hfz29_3 hfz29_4 hfz29_5 hfz29_6 hfz29_7 hfz29_8 hfz29_9
                  try clear hfz30_0 hfz30_1 hfz30_2 hfz30_3 hfz30_4 hfz30_5 hfz30_6 hfz30_7 hfz30_8 hfz30_9
                  try clear hfz31_0 hfz31_1 hfz31_2 hfz31_3 hfz31_4 hfz31_5 hfz31_6 hfz31_7 hfz31_8 hfz31_9
                  try clear hfz34_0 hfz34_1 hfz34_2 hfz34_3 hfz34_4 hfz34_5 hfz34_6 hfz34_7 hfz34_8 hfz34_9
                  try clear hfz36_0 hfz36_1 hfz36_2 hfz36_3 hfz36_4 hfz36_5 hfz36_6 hfz36_7 hfz36_8 hfz36_9
                  try clear hfz38_0 hfz38_1 hfz38_2 hfz38_3 hfz38_4 hfz38_5 hfz38_6 hfz38_7 hfz38_8 hfz38_9
                  try clear hfz40_0 hfz40_1 hfz40_2 hfz40_3 hfz40_4 hfz40_5 hfz40_6 hfz40_7 hfz40_8 hfz40_9
                  try clear hfz41_0 hfz41_1 hfz41_2 hfz41_3 hfz41_4 hfz41_5 hfz41_6 hfz41_7 hfz41_8 hfz41_9
                  try clear hfz42_0 hfz42_1 hfz42_2 hfz42_3 hfz42_4 hfz42_5 hfz42_6 hfz42_7 hfz42_8 hfz42_9
                  try clear hfz6_0 hfz6_1 hfz6_2 hfz6_3 hfz6_4 hfz6_5 hfz6_6 hfz6_7 hfz6_8 hfz6_9
                  try clear p2
                  obtain ⟨kq, HA, HJ20, BK117, HB⟩ := hcut
                  cases kq with
                  | zero => exact absurd HA.out (by simp [spec_MsgFault.j2])
                  | succ kj20 =>
                    have H := HA.out
                    clear HA
                    simp only [spec_MsgFault.j2] at H
                    have HC43 := Aside0.mk H
                    clear H
                    go_upto_region 14 with (fail)
                    go_cut [101] (fun v101 wc => ∃ (kq : Nat) (x101_42 : Bool), v101 = .bool x101_42 ∧ Aside0 (spec_MsgFault.j3 kq a0_0 x4_16 x101_42 a0_0 a0_1 a0_2 a0_3 a0_4 a0_5 a0_6 a0_7 a0_8 l0_9 = some r) ∧ Aside0 (kq ≤ kj20) ∧ Aside0 (wc.heap[gb117]? = some (.cells #[.int .i64 a0_0, .int .i64 a0_1, .int .i64 a0_2, .int .i64 a0_3, .int .i64 a0_4, .int .i64 a0_5, .int .i64 a0_6, .int .i64 a0_7, .int .i64 a0_8, (.slice A0_9 l0_9.length c0_9)] 29 (0, 0))) ∧ Aside0 (Below w.heap.size w wc))
                    case first => as_aux_lemma =>
                      have H := HC43.out
                      clear HC43
                      by_cases c44 : a0_0 = 5
                      · rw [if_pos c44] at H
                        have c44b0 : (a0_0 == 5) = true := beq_iff_eq.mpr c44
                        have c44b1 : (a0_0 != 5) = false := bne_eq_false_iff_eq.mpr c44
                        clear c44
                        (first | rw [c44b0] | (simp only [i64_w, i32_w]; rw [c44b0]) | skip)
                        replace H := Option.bind_eq_some_iff.mp H
                        obtain ⟨t124, A450, H⟩ := H
                        replace H : (if t124 = true then (spec_MsgFault.j3 kj20 a0_0 x4_16 false a0_0 a0_1 a0_2 a0_3 a0_4 a0_5 a0_6 a0_7 a0_8 l0_9) else (spec_MsgFault.j3 kj20 a0_0 x4_16 true a0_0 a0_1 a0_2 a0_3 a0_4 a0_5 a0_6 a0_7 a0_8 l0_9)) = some r := H
                        have A45 := Aside0.mk A450
                        clear A450
                        by_cases c46 : t124 = true
                        · subst c46
                          have H1 : (spec_MsgFault.j3 kj20 a0_0 x4_16 false a0_0 a0_1 a0_2 a0_3 a0_4 a0_5 a0_6 a0_7 a0_8 l0_9) = some r := by rw [if_pos rfl] at H; exact H
                          clear H
                          have H := H1
                          clear H1
                          have H' := Aside0.mk H
                          clear H
                          obtain ⟨hcz47_0, hcz47_1, hcz47_2, hcz47_3, hcz47_4, hcz47_5, hcz47_6, hcz47_7, hcz47_8, hcz47_9⟩ := ce10 BK117.out
                          obtain ⟨hfz47_0, hfz47_1, hfz47_2, hfz47_3, hfz47_4, hfz47_5, hfz47_6, hfz47_7, hfz47_8, hfz47_9⟩ := fr10 BK117.out
                          go_wp2_with (first | (go_at_call 20; (with_reducible refine (spec_l1in.calls a0_6 0 4096 true _ A45.out).mono ?_); rintro e w' ⟨rfl, ⟨nd, rfl⟩⟩))
                          go_meet
                          case rel => exact ⟨_, (false), (by first | rfl | (simp; done) | (simp [*]; done)), H', ⟨by have := HJ3.out; have := HJ16.out; have := HJ20.out; first | omega | exact Nat.le_refl _⟩, ⟨bk BK117⟩, ⟨bl HB⟩⟩
                        · replace c46 := Bool.eq_false_iff.mpr c46
                          subst c46
                          have H1 : (spec_MsgFault.j3 kj20 a0_0 x4_16 true a0_0 a0_1 a0_2 a0_3 a0_4 a0_5 a0_6 a0_7 a0_8 l0_9) = some r := by rw [if_neg (show ¬ (false = true) by decide)] at H; exact H
                          clear H
                          have H := H1
                          clear H1
                          have H' := Aside0.mk H
                          clear H
                          obtain ⟨hcz48_0, hcz48_1, hcz48_2, hcz48_3, hcz48_4, hcz48_5, hcz48_6, hcz48_7, hcz48_8, hcz48_9⟩ := ce10 BK117.out
                          obtain ⟨hfz48_0, hfz48_1, hfz48_2, hfz48_3, hfz48_4, hfz48_5, hfz48_6, hfz48_7, hfz48_8, hfz48_9⟩ := fr10 BK117.out
                          go_wp2_with (first | (go_at_call 20; (with_reducible refine (spec_l1in.calls a0_6 0 4096 false _ A45.out).mono ?_); rintro e w' ⟨rfl, ⟨nd, rfl⟩⟩))
                          go_meet
                          case rel => exact ⟨_, (true), (by first | rfl | (simp; done) | (simp [*]; done)), H', ⟨by have := HJ3.out; have := HJ16.out; have := HJ20.out; first | omega | exact Nat.le_refl _⟩, ⟨bk BK117⟩, ⟨bl HB⟩⟩
                      · rw [if_neg c44] at H
                        have c44b0 : (a0_0 == 5) = false := beq_eq_false_iff_ne.mpr c44
                        have c44b1 : (a0_0 != 5) = true := bne_iff_ne.mpr c44
                        (first | rw [c44b0] | (simp only [i64_w, i32_w]; rw [c44b0]) | skip)
                        have H' := Aside0.mk H
                        clear H
                        obtain ⟨hcz49_0, hcz49_1, hcz49_2, hcz49_3, hcz49_4, hcz49_5, hcz49_6, hcz49_7, hcz49_8, hcz49_9⟩ := ce10 BK117.out
                        obtain ⟨hfz49_0, hfz49_1, hfz49_2, hfz49_3, hfz49_4, hfz49_5, hfz49_6, hfz49_7, hfz49_8, hfz49_9⟩ := fr10 BK117.out
                        go_wp2
                        go_meet
                        case rel => exact ⟨_, ((a0_6 != 0)), (by first | rfl | (simp; done) | (simp [*]; done)), H', ⟨by have := HJ3.out; have := HJ16.out; have := HJ20.out; first | omega | exact Nat.le_refl _⟩, ⟨bk BK117⟩, ⟨bl HB⟩⟩
                    case rest => as_aux_lemma =>
                      clear HC43
                      try clear c1
                      try clear c2
                      try clear p2
                      try clear c3
                      try clear c4
                      try clear c6
                      try clear c8
                      try clear c10
                      try clear c14
                      try clear c16
                      try clear c19
                      try clear c19b0
                      try clear c19b1
                      try clear c20
                      try clear c20b0
                      try clear c20b1
                      try clear c22
                      try clear c24
                      try clear c26
                      try clear c27
                      try clear c27b0
                      try clear c27b1
                      try clear c27b2
                      try clear c32
                      try clear c32b0
                      try clear c32b1
                      try clear c33
                      try clear c33b0
                      try clear c35
                      try clear c35b0
                      try clear c37
                      try clear c37b0
                      try clear c37b1
                      try clear c39
                      try clear c39b0
                      try clear c39b1
                      try clear c44
                      try clear c44b0
                      try clear c44b1
                      try clear c46
                      try clear hcz11_0 hcz11_1 hcz11_2 hcz11_3 hcz11_4 hcz11_5 hcz11_6 hcz11_7 hcz11_8 hcz11_9
                      try clear hcz12_0 hcz12_1 hcz12_2 hcz12_3 hcz12_4 hcz12_5 hcz12_6 hcz12_7 hcz12_8 hcz12_9
                      try clear hcz13_0 hcz13_1 hcz13_2 hcz13_3 hcz13_4 hcz13_5 hcz13_6 hcz13_7 hcz13_8 hcz13_9
                      try clear hcz18_0 hcz18_1 hcz18_2 hcz18_3 hcz18_4 hcz18_5 hcz18_6 hcz18_7 hcz18_8 hcz18_9
                      try clear hcz28_0 hcz28_1 hcz28_2 hcz28_3 hcz28_4 hcz28_5 hcz28_6 hcz28_7 hcz28_8 hcz28_9
                      try clear hcz29_0 hcz29_1 hcz29_2 hcz29_3 hcz29_4 hcz29_5 hcz29_6 hcz29_7 hcz29_8 hcz29_9
                      try clear hcz30_0 hcz30_1 hcz30_2 hcz30_3 hcz30_4 hcz30_5 hcz30_6 hcz30_7 hcz30_8 hcz30_9
                      try clear hcz31_0 hcz31_1 hcz31_2 hcz31_3 hcz31_4 hcz31_5 hcz31_6 hcz31_7 hcz31_8 hcz31_9
                      try clear hcz34_0 hcz34_1 hcz34_2 hcz34_3 hcz34_4 hcz34_5 hcz34_6 hcz34_7 hcz34_8 hcz34_9
                      try clear hcz36_0 hcz36_1 hcz36_2 hcz36_3 hcz36_4 hcz36_5 hcz36_6 hcz36_7 hcz36_8 hcz36_9
                      try clear hcz38_0 hcz38_1 hcz38_2 hcz38_3 hcz38_4 hcz38_5 hcz38_6 hcz38_7 hcz38_8 hcz38_9
                      try clear hcz40_0 hcz40_1 hcz40_2 hcz40_3 hcz40_4 hcz40_5 hcz40_6 hcz40_7 hcz40_8 hcz40_9
                      try clear hcz41_0 hcz41_1 hcz41_2 hcz41_3 hcz41_4 hcz41_5 hcz41_6 hcz41_7 hcz41_8 hcz41_9
                      try clear hcz42_0 hcz42_1 hcz42_2 hcz42_3 hcz42_4 hcz42_5 hcz42_6 hcz42_7 hcz42_8 hcz42_9
                      try clear hcz47_0 hcz47_1 hcz47_2 hcz47_3 hcz47_4 hcz47_5 hcz47_6 hcz47_7 hcz47_8 hcz47_9
                      try clear hcz48_0 hcz48_1 hcz48_2 hcz48_3 hcz48_4 hcz48_5 hcz48_6 hcz48_7 hcz48_8 hcz48_9
                      try clear hcz49_0 hcz49_1 hcz49_2 hcz49_3 hcz49_4 hcz49_5 hcz49_6 hcz49_7 hcz49_8 hcz49_9
                      try clear hcz6_0 hcz6_1 hcz6_2 hcz6_3 hcz6_4 hcz6_5 hcz6_6 hcz6_7 hcz6_8 hcz6_9
                      try clear hfz11_0 hfz11_1 hfz11_2 hfz11_3 hfz11_4 hfz11_5 hfz11_6 hfz11_7 hfz11_8 hfz11_9
                      try clear hfz12_0 hfz12_1 hfz12_2 hfz12_3 hfz12_4 hfz12_5 hfz12_6 hfz12_7 hfz12_8 hfz12_9
                      try clear hfz13_0 hfz13_1 hfz13_2 hfz13_3 hfz13_4 hfz13_5 hfz13_6 hfz13_7 hfz13_8 hfz13_9
                      try clear hfz18_0 hfz18_1 hfz18_2 hfz18_3 hfz18_4 hfz18_5 hfz18_6 hfz18_7 hfz18_8 hfz18_9
                      try clear hfz28_0 hfz28_1 hfz28_2 hfz28_3 hfz28_4 hfz28_5 hfz28_6 hfz28_7 hfz28_8 hfz28_9
                      try clear hfz29_0 hfz29_1 hfz29_2 hfz29_3 hfz29_4 hfz29_5 hfz29_6 hfz29_7 hfz29_8 hfz29_9
                      try clear hfz30_0 hfz30_1 hfz30_2 hfz30_3 hfz30_4 hfz30_5 hfz30_6 hfz30_7 hfz30_8 hfz30_9
                      try clear hfz31_0 hfz31_1 hfz31_2 hfz31_3 hfz31_4 hfz31_5 hfz31_6 hfz31_7 hfz31_8 hfz31_9
                      try clear hfz34_0 hfz34_1 hfz34_2 hfz34_3 hfz34_4 hfz34_5 hfz34_6 hfz34_7 hfz34_8 hfz34_9
                      try clear hfz36_0 hfz36_1 hfz36_2 hfz36_3 hfz36_4 hfz36_5 hfz36_6 hfz36_7 hfz36_8 hfz36_9
                      try clear hfz38_0 hfz38_1 hfz38_2 hfz38_3 hfz38_4 hfz38_5 hfz38_6 hfz38_7 hfz38_8 hfz38_9
                      try clear hfz40_0 hfz40_1 hfz40_2 hfz40_3 hfz40_4 hfz40_5 hfz40_6 hfz40_7 hfz40_8 hfz40_9
                      try clear hfz41_0 hfz41_1 hfz41_2 hfz41_3 hfz41_4 hfz41_5 hfz41_6 hfz41_7 hfz41_8 hfz41_9
                      try clear hfz42_0 hfz42_1 hfz42_2 hfz42_3 hfz42_4 hfz42_5 hfz42_6 hfz42_7 hfz42_8 hfz42_9
                      try clear hfz47_0 hfz47_1 hfz47_2 hfz47_3 hfz47_4 hfz47_5 hfz47_6 hfz47_7 hfz47_8 hfz47_9
                      try clear hfz48_0 hfz48_1 hfz48_2 hfz48_3 hfz48_4 hfz48_5 hfz48_6 hfz48_7 hfz48_8 hfz48_9
                      try clear hfz49_0 hfz49_1 hfz49_2 hfz49_3 hfz49_4 hfz49_5 hfz49_6 hfz49_7 hfz49_8 hfz49_9
                      try clear hfz6_0 hfz6_1 hfz6_2 hfz6_3 hfz6_4 hfz6_5 hfz6_6 hfz6_7 hfz6_8 hfz6_9
                      try clear p2
                      obtain ⟨kq, x101_42, rfl, HA, HJ42, BK117, HB⟩ := hcut
                      cases kq with
                      | zero => exact absurd HA.out (by simp [spec_MsgFault.j3])
                      | succ kj42 =>
                        have H := HA.out
                        clear HA
                        simp only [spec_MsgFault.j3] at H
                        by_cases c50 : x101_42 = true
                        · subst c50
                          have H1 : (some 5) = some r := by rw [if_pos rfl] at H; exact H
                          clear H
                          have H := H1
                          clear H1
                          obtain rfl := Option.some.inj H
                          go_wp2
                          go_ret
                          exact ⟨by first | rfl | (simp [errW_none, errW_some] <;> rfl) | (simp [*, errW_none, errW_some] <;> rfl), bl HB⟩
                        · replace c50 := Bool.eq_false_iff.mpr c50
                          subst c50
                          have H1 : (if x4_16 = true then (if a0_7 = 0 then ((spec_l1in.f a0_7 0 1).bind fun t125 => (spec_MsgFault.j4 kj42 a0_0 (!t125) a0_0 a0_1 a0_2 a0_3 a0_4 a0_5 a0_6 a0_7 a0_8 l0_9)) else (spec_MsgFault.j4 kj42 a0_0 true a0_0 a0_1 a0_2 a0_3 a0_4 a0_5 a0_6 a0_7 a0_8 l0_9)) else ((spec_l1in.f a0_7 0 1).bind fun t126 => (spec_MsgFault.j4 kj42 a0_0 (!t126) a0_0 a0_1 a0_2 a0_3 a0_4 a0_5 a0_6 a0_7 a0_8 l0_9))) = some r := by rw [if_neg (show ¬ (false = true) by decide)] at H; exact H
                          clear H
                          have H := H1
                          clear H1
                          have HC51 := Aside0.mk H
                          clear H
                          go_upto_region 16 with (fail)
                          go_cut [113] (fun v113 wc => ∃ (kq : Nat) (x113_50 : Bool), v113 = .bool x113_50 ∧ Aside0 (spec_MsgFault.j4 kq a0_0 x113_50 a0_0 a0_1 a0_2 a0_3 a0_4 a0_5 a0_6 a0_7 a0_8 l0_9 = some r) ∧ Aside0 (kq ≤ kj42) ∧ Aside0 (wc.heap[gb117]? = some (.cells #[.int .i64 a0_0, .int .i64 a0_1, .int .i64 a0_2, .int .i64 a0_3, .int .i64 a0_4, .int .i64 a0_5, .int .i64 a0_6, .int .i64 a0_7, .int .i64 a0_8, (.slice A0_9 l0_9.length c0_9)] 29 (0, 0))) ∧ Aside0 (Below w.heap.size w wc))
                          case first => as_aux_lemma =>
                            have H := HC51.out
                            clear HC51
                            by_cases c52 : x4_16 = true
                            · subst c52
                              have H1 : (if a0_7 = 0 then ((spec_l1in.f a0_7 0 1).bind fun t125 => (spec_MsgFault.j4 kj42 a0_0 (!t125) a0_0 a0_1 a0_2 a0_3 a0_4 a0_5 a0_6 a0_7 a0_8 l0_9)) else (spec_MsgFault.j4 kj42 a0_0 true a0_0 a0_1 a0_2 a0_3 a0_4 a0_5 a0_6 a0_7 a0_8 l0_9)) = some r := by rw [if_pos rfl] at H; exact H
                              clear H
                              have H := H1
                              clear H1
                              by_cases c53 : a0_7 = 0
                              · rw [if_pos c53] at H
                                have c53b0 : (a0_7 == 0) = true := beq_iff_eq.mpr c53
                                have c53b1 : (a0_7 != 0) = false := bne_eq_false_iff_eq.mpr c53
                                clear c53
                                (first | rw [c53b0] | (simp only [i64_w, i32_w]; rw [c53b0]) | skip)
                                replace H := Option.bind_eq_some_iff.mp H
                                obtain ⟨t125, A540, H⟩ := H
                                replace H : (spec_MsgFault.j4 kj42 a0_0 (!t125) a0_0 a0_1 a0_2 a0_3 a0_4 a0_5 a0_6 a0_7 a0_8 l0_9) = some r := H
                                have A54 := Aside0.mk A540
                                clear A540
                                have H' := Aside0.mk H
                                clear H
                                obtain ⟨hcz55_0, hcz55_1, hcz55_2, hcz55_3, hcz55_4, hcz55_5, hcz55_6, hcz55_7, hcz55_8, hcz55_9⟩ := ce10 BK117.out
                                obtain ⟨hfz55_0, hfz55_1, hfz55_2, hfz55_3, hfz55_4, hfz55_5, hfz55_6, hfz55_7, hfz55_8, hfz55_9⟩ := fr10 BK117.out
                                go_wp2_with (first | (go_at_call 20; (with_reducible refine (spec_l1in.calls a0_7 0 1 t125 _ A54.out).mono ?_); rintro e w' ⟨rfl, ⟨nd, rfl⟩⟩))
                                go_meet
                                case rel => exact ⟨_, (!t125), (by first | rfl | (simp; done) | (simp [*]; done)), H', ⟨by have := HJ3.out; have := HJ16.out; have := HJ20.out; have := HJ42.out; first | omega | exact Nat.le_refl _⟩, ⟨bk BK117⟩, ⟨bl HB⟩⟩
                              · rw [if_neg c53] at H
                                have c53b0 : (a0_7 == 0) = false := beq_eq_false_iff_ne.mpr c53
                                have c53b1 : (a0_7 != 0) = true := bne_iff_ne.mpr c53
                                (first | rw [c53b0] | (simp only [i64_w, i32_w]; rw [c53b0]) | skip)
                                have H' := Aside0.mk H
                                clear H
                                obtain ⟨hcz56_0, hcz56_1, hcz56_2, hcz56_3, hcz56_4, hcz56_5, hcz56_6, hcz56_7, hcz56_8, hcz56_9⟩ := ce10 BK117.out
                                obtain ⟨hfz56_0, hfz56_1, hfz56_2, hfz56_3, hfz56_4, hfz56_5, hfz56_6, hfz56_7, hfz56_8, hfz56_9⟩ := fr10 BK117.out
                                go_wp2
                                go_meet
                                case rel => exact ⟨_, (true), (by first | rfl | (simp; done) | (simp [*]; done)), H', ⟨by have := HJ3.out; have := HJ16.out; have := HJ20.out; have := HJ42.out; first | omega | exact Nat.le_refl _⟩, ⟨bk BK117⟩, ⟨bl HB⟩⟩
                            · replace c52 := Bool.eq_false_iff.mpr c52
                              subst c52
                              have H1 : ((spec_l1in.f a0_7 0 1).bind fun t126 => (spec_MsgFault.j4 kj42 a0_0 (!t126) a0_0 a0_1 a0_2 a0_3 a0_4 a0_5 a0_6 a0_7 a0_8 l0_9)) = some r := by rw [if_neg (show ¬ (false = true) by decide)] at H; exact H
                              clear H
                              have H := H1
                              clear H1
                              replace H := Option.bind_eq_some_iff.mp H
                              obtain ⟨t126, A570, H⟩ := H
                              replace H : (spec_MsgFault.j4 kj42 a0_0 (!t126) a0_0 a0_1 a0_2 a0_3 a0_4 a0_5 a0_6 a0_7 a0_8 l0_9) = some r := H
                              have A57 := Aside0.mk A570
                              clear A570
                              have H' := Aside0.mk H
                              clear H
                              obtain ⟨hcz58_0, hcz58_1, hcz58_2, hcz58_3, hcz58_4, hcz58_5, hcz58_6, hcz58_7, hcz58_8, hcz58_9⟩ := ce10 BK117.out
                              obtain ⟨hfz58_0, hfz58_1, hfz58_2, hfz58_3, hfz58_4, hfz58_5, hfz58_6, hfz58_7, hfz58_8, hfz58_9⟩ := fr10 BK117.out
                              go_wp2_with (first | (go_at_call 20; (with_reducible refine (spec_l1in.calls a0_7 0 1 t126 _ A57.out).mono ?_); rintro e w' ⟨rfl, ⟨nd, rfl⟩⟩))
                              go_meet
                              case rel => exact ⟨_, (!t126), (by first | rfl | (simp; done) | (simp [*]; done)), H', ⟨by have := HJ3.out; have := HJ16.out; have := HJ20.out; have := HJ42.out; first | omega | exact Nat.le_refl _⟩, ⟨bk BK117⟩, ⟨bl HB⟩⟩
                          case rest => as_aux_lemma =>
                            clear HC51
                            try clear c1
                            try clear c2
                            try clear p2
                            try clear c3
                            try clear c4
                            try clear c5
                            try clear c6
                            try clear c8
                            try clear c10
                            try clear c14
                            try clear c16
                            try clear c19
                            try clear c19b0
                            try clear c19b1
                            try clear c20
                            try clear c20b0
                            try clear c20b1
                            try clear c22
                            try clear c24
                            try clear c26
                            try clear c27
                            try clear c27b0
                            try clear c27b1
                            try clear c27b2
                            try clear c32
                            try clear c32b0
                            try clear c32b1
                            try clear c33
                            try clear c33b0
                            try clear c35
                            try clear c35b0
                            try clear c37
                            try clear c37b0
                            try clear c37b1
                            try clear c39
                            try clear c39b0
                            try clear c39b1
                            try clear c44
                            try clear c44b0
                            try clear c44b1
                            try clear c46
                            try clear c50
                            try clear c52
                            try clear c53
                            try clear c53b0
                            try clear c53b1
                            try clear hcz11_0 hcz11_1 hcz11_2 hcz11_3 hcz11_4 hcz11_5 hcz11_6 hcz11_7 hcz11_8 hcz11_9
                            try clear hcz12_0 hcz12_1 hcz12_2 hcz12_3 hcz12_4 hcz12_5 hcz12_6 hcz12_7 hcz12_8 hcz12_9
                            try clear hcz13_0 hcz13_1 hcz13_2 hcz13_3 hcz13_4 hcz13_5 hcz13_6 hcz13_7 hcz13_8 hcz13_9
                            try clear hcz18_0 hcz18_1 hcz18_2 hcz18_3 hcz18_4 hcz18_5 hcz18_6 hcz18_7 hcz18_8 hcz18_9
                            try clear hcz28_0 hcz28_1 hcz28_2 hcz28_3 hcz28_4 hcz28_5 hcz28_6 hcz28_7 hcz28_8 hcz28_9
                            try clear hcz29_0 hcz29_1 hcz29_2 hcz29_3 hcz29_4 hcz29_5 hcz29_6 hcz29_7 hcz29_8 hcz29_9
                            try clear hcz30_0 hcz30_1 hcz30_2 hcz30_3 hcz30_4 hcz30_5 hcz30_6 hcz30_7 hcz30_8 hcz30_9
                            try clear hcz31_0 hcz31_1 hcz31_2 hcz31_3 hcz31_4 hcz31_5 hcz31_6 hcz31_7 hcz31_8 hcz31_9
                            try clear hcz34_0 hcz34_1 hcz34_2 hcz34_3 hcz34_4 hcz34_5 hcz34_6 hcz34_7 hcz34_8 hcz34_9
                            try clear hcz36_0 hcz36_1 hcz36_2 hcz36_3 hcz36_4 hcz36_5 hcz36_6 hcz36_7 hcz36_8 hcz36_9
                            try clear hcz38_0 hcz38_1 hcz38_2 hcz38_3 hcz38_4 hcz38_5 hcz38_6 hcz38_7 hcz38_8 hcz38_9
                            try clear hcz40_0 hcz40_1 hcz40_2 hcz40_3 hcz40_4 hcz40_5 hcz40_6 hcz40_7 hcz40_8 hcz40_9
                            try clear hcz41_0 hcz41_1 hcz41_2 hcz41_3 hcz41_4 hcz41_5 hcz41_6 hcz41_7 hcz41_8 hcz41_9
                            try clear hcz42_0 hcz42_1 hcz42_2 hcz42_3 hcz42_4 hcz42_5 hcz42_6 hcz42_7 hcz42_8 hcz42_9
                            try clear hcz47_0 hcz47_1 hcz47_2 hcz47_3 hcz47_4 hcz47_5 hcz47_6 hcz47_7 hcz47_8 hcz47_9
                            try clear hcz48_0 hcz48_1 hcz48_2 hcz48_3 hcz48_4 hcz48_5 hcz48_6 hcz48_7 hcz48_8 hcz48_9
                            try clear hcz49_0 hcz49_1 hcz49_2 hcz49_3 hcz49_4 hcz49_5 hcz49_6 hcz49_7 hcz49_8 hcz49_9
                            try clear hcz55_0 hcz55_1 hcz55_2 hcz55_3 hcz55_4 hcz55_5 hcz55_6 hcz55_7 hcz55_8 hcz55_9
                            try clear hcz56_0 hcz56_1 hcz56_2 hcz56_3 hcz56_4 hcz56_5 hcz56_6 hcz56_7 hcz56_8 hcz56_9
                            try clear hcz58_0 hcz58_1 hcz58_2 hcz58_3 hcz58_4 hcz58_5 hcz58_6 hcz58_7 hcz58_8 hcz58_9
                            try clear hcz6_0 hcz6_1 hcz6_2 hcz6_3 hcz6_4 hcz6_5 hcz6_6 hcz6_7 hcz6_8 hcz6_9
                            try clear hfz11_0 hfz11_1 hfz11_2 hfz11_3 hfz11_4 hfz11_5 hfz11_6 hfz11_7 hfz11_8 hfz11_9
                            try clear hfz12_0 hfz12_1 hfz12_2 hfz12_3 hfz12_4 hfz12_5 hfz12_6 hfz12_7 hfz12_8 hfz12_9
                            try clear hfz13_0 hfz13_1 hfz13_2 hfz13_3 hfz13_4 hfz13_5 hfz13_6 hfz13_7 hfz13_8 hfz13_9
                            try clear hfz18_0 hfz18_1 hfz18_2 hfz18_3 hfz18_4 hfz18_5 hfz18_6 hfz18_7 hfz18_8 hfz18_9
                            try clear hfz28_0 hfz28_1 hfz28_2 hfz28_3 hfz28_4 hfz28_5 hfz28_6 hfz28_7 hfz28_8 hfz28_9
                            try clear hfz29_0 hfz29_1 hfz29_2 hfz29_3 hfz29_4 hfz29_5 hfz29_6 hfz29_7 hfz29_8 hfz29_9
                            try clear hfz30_0 hfz30_1 hfz30_2 hfz30_3 hfz30_4 hfz30_5 hfz30_6 hfz30_7 hfz30_8 hfz30_9
                            try clear hfz31_0 hfz31_1 hfz31_2 hfz31_3 hfz31_4 hfz31_5 hfz31_6 hfz31_7 hfz31_8 hfz31_9
                            try clear hfz34_0 hfz34_1 hfz34_2 hfz34_3 hfz34_4 hfz34_5 hfz34_6 hfz34_7 hfz34_8 hfz34_9
                            try clear hfz36_0 hfz36_1 hfz36_2 hfz36_3 hfz36_4 hfz36_5 hfz36_6 hfz36_7 hfz36_8 hfz36_9
                            try clear hfz38_0 hfz38_1 hfz38_2 hfz38_3 hfz38_4 hfz38_5 hfz38_6 hfz38_7 hfz38_8 hfz38_9
                            try clear hfz40_0 hfz40_1 hfz40_2 hfz40_3 hfz40_4 hfz40_5 hfz40_6 hfz40_7 hfz40_8 hfz40_9
                            try clear hfz41_0 hfz41_1 hfz41_2 hfz41_3 hfz41_4 hfz41_5 hfz41_6 hfz41_7 hfz41_8 hfz41_9
                            try clear hfz42_0 hfz42_1 hfz42_2 hfz42_3 hfz42_4 hfz42_5 hfz42_6 hfz42_7 hfz42_8 hfz42_9
                            try clear hfz47_0 hfz47_1 hfz47_2 hfz47_3 hfz47_4 hfz47_5 hfz47_6 hfz47_7 hfz47_8 hfz47_9
                            try clear hfz48_0 hfz48_1 hfz48_2 hfz48_3 hfz48_4 hfz48_5 hfz48_6 hfz48_7 hfz48_8 hfz48_9
                            try clear hfz49_0 hfz49_1 hfz49_2 hfz49_3 hfz49_4 hfz49_5 hfz49_6 hfz49_7 hfz49_8 hfz49_9
                            try clear hfz55_0 hfz55_1 hfz55_2 hfz55_3 hfz55_4 hfz55_5 hfz55_6 hfz55_7 hfz55_8 hfz55_9
                            try clear hfz56_0 hfz56_1 hfz56_2 hfz56_3 hfz56_4 hfz56_5 hfz56_6 hfz56_7 hfz56_8 hfz56_9
                            try clear hfz58_0 hfz58_1 hfz58_2 hfz58_3 hfz58_4 hfz58_5 hfz58_6 hfz58_7 hfz58_8 hfz58_9
                            try clear hfz6_0 hfz6_1 hfz6_2 hfz6_3 hfz6_4 hfz6_5 hfz6_6 hfz6_7 hfz6_8 hfz6_9
                            try clear p2
                            obtain ⟨kq, x113_50, rfl, HA, HJ50, BK117, HB⟩ := hcut
                            cases kq with
                            | zero => exact absurd HA.out (by simp [spec_MsgFault.j4])
                            | succ kj50 =>
                              have H := HA.out
                              clear HA
                              simp only [spec_MsgFault.j4] at H
                              by_cases c59 : x113_50 = true
                              · subst c59
                                have H1 : (some 5) = some r := by rw [if_pos rfl] at H; exact H
                                clear H
                                have H := H1
                                clear H1
                                obtain rfl := Option.some.inj H
                                go_wp2
                                go_ret
                                exact ⟨by first | rfl | (simp [errW_none, errW_some] <;> rfl) | (simp [*, errW_none, errW_some] <;> rfl), bl HB⟩
                              · replace c59 := Bool.eq_false_iff.mpr c59
                                subst c59
                                have H1 : (if a0_8 = 0 then (spec_MsgFault.j5 kj50 a0_0 false a0_0 a0_1 a0_2 a0_3 a0_4 a0_5 a0_6 a0_7 a0_8 l0_9) else (if a0_0 = 6 then (if a0_7 = 1 then (spec_MsgFault.j5 kj50 a0_0 true a0_0 a0_1 a0_2 a0_3 a0_4 a0_5 a0_6 a0_7 a0_8 l0_9) else ((spec_l1in.f a0_8 0 4096).bind fun t127 => (spec_MsgFault.j5 kj50 a0_0 (!t127) a0_0 a0_1 a0_2 a0_3 a0_4 a0_5 a0_6 a0_7 a0_8 l0_9))) else (spec_MsgFault.j5 kj50 a0_0 true a0_0 a0_1 a0_2 a0_3 a0_4 a0_5 a0_6 a0_7 a0_8 l0_9))) = some r := by rw [if_neg (show ¬ (false = true) by decide)] at H; exact H
                                clear H
                                have H := H1
                                clear H1
                                have HC60 := Aside0.mk H
                                clear H
                                go_upto_region 18 with (fail)
                                go_cut [131] (fun v131 wc => ∃ (kq : Nat) (x131_59 : Bool), v131 = .bool x131_59 ∧ Aside0 (spec_MsgFault.j5 kq a0_0 x131_59 a0_0 a0_1 a0_2 a0_3 a0_4 a0_5 a0_6 a0_7 a0_8 l0_9 = some r) ∧ Aside0 (kq ≤ kj50) ∧ Aside0 (wc.heap[gb117]? = some (.cells #[.int .i64 a0_0, .int .i64 a0_1, .int .i64 a0_2, .int .i64 a0_3, .int .i64 a0_4, .int .i64 a0_5, .int .i64 a0_6, .int .i64 a0_7, .int .i64 a0_8, (.slice A0_9 l0_9.length c0_9)] 29 (0, 0))) ∧ Aside0 (Below w.heap.size w wc))
                                case first => as_aux_lemma =>
                                  have H := HC60.out
                                  clear HC60
                                  by_cases c61 : a0_8 = 0
                                  · rw [if_pos c61] at H
                                    have c61b0 : (a0_8 == 0) = true := beq_iff_eq.mpr c61
                                    have c61b1 : (a0_8 != 0) = false := bne_eq_false_iff_eq.mpr c61
                                    clear c61
                                    (first | rw [c61b0] | (simp only [i64_w, i32_w]; rw [c61b0]) | skip)
                                    have H' := Aside0.mk H
                                    clear H
                                    obtain ⟨hcz62_0, hcz62_1, hcz62_2, hcz62_3, hcz62_4, hcz62_5, hcz62_6, hcz62_7, hcz62_8, hcz62_9⟩ := ce10 BK117.out
                                    obtain ⟨hfz62_0, hfz62_1, hfz62_2, hfz62_3, hfz62_4, hfz62_5, hfz62_6, hfz62_7, hfz62_8, hfz62_9⟩ := fr10 BK117.out
                                    go_wp2
                                    go_meet
                                    case rel => exact ⟨_, (false), (by first | rfl | (simp; done) | (simp [*]; done)), H', ⟨by have := HJ3.out; have := HJ16.out; have := HJ20.out; have := HJ42.out; have := HJ50.out; first | omega | exact Nat.le_refl _⟩, ⟨bk BK117⟩, ⟨bl HB⟩⟩
                                  · rw [if_neg c61] at H
                                    have c61b0 : (a0_8 == 0) = false := beq_eq_false_iff_ne.mpr c61
                                    have c61b1 : (a0_8 != 0) = true := bne_iff_ne.mpr c61
                                    (first | rw [c61b0] | (simp only [i64_w, i32_w]; rw [c61b0]) | skip)
                                    by_cases c63 : a0_0 = 6
                                    · rw [if_pos c63] at H
                                      have c63b0 : (a0_0 == 6) = true := beq_iff_eq.mpr c63
                                      have c63b1 : (a0_0 != 6) = false := bne_eq_false_iff_eq.mpr c63
                                      clear c63
                                      by_cases c64 : a0_7 = 1
                                      · rw [if_pos c64] at H
                                        have c64b0 : (a0_7 == 1) = true := beq_iff_eq.mpr c64
                                        have c64b1 : (a0_7 != 1) = false := bne_eq_false_iff_eq.mpr c64
                                        clear c64
                                        have H' := Aside0.mk H
                                        clear H
                                        obtain ⟨hcz65_0, hcz65_1, hcz65_2, hcz65_3, hcz65_4, hcz65_5, hcz65_6, hcz65_7, hcz65_8, hcz65_9⟩ := ce10 BK117.out
                                        obtain ⟨hfz65_0, hfz65_1, hfz65_2, hfz65_3, hfz65_4, hfz65_5, hfz65_6, hfz65_7, hfz65_8, hfz65_9⟩ := fr10 BK117.out
                                        go_wp2
                                        go_meet
                                        case rel => exact ⟨_, (true), (by first | rfl | (simp; done) | (simp [*]; done)), H', ⟨by have := HJ3.out; have := HJ16.out; have := HJ20.out; have := HJ42.out; have := HJ50.out; first | omega | exact Nat.le_refl _⟩, ⟨bk BK117⟩, ⟨bl HB⟩⟩
                                      · rw [if_neg c64] at H
                                        have c64b0 : (a0_7 == 1) = false := beq_eq_false_iff_ne.mpr c64
                                        have c64b1 : (a0_7 != 1) = true := bne_iff_ne.mpr c64
                                        replace H := Option.bind_eq_some_iff.mp H
                                        obtain ⟨t127, A660, H⟩ := H
                                        replace H : (spec_MsgFault.j5 kj50 a0_0 (!t127) a0_0 a0_1 a0_2 a0_3 a0_4 a0_5 a0_6 a0_7 a0_8 l0_9) = some r := H
                                        have A66 := Aside0.mk A660
                                        clear A660
                                        have H' := Aside0.mk H
                                        clear H
                                        obtain ⟨hcz67_0, hcz67_1, hcz67_2, hcz67_3, hcz67_4, hcz67_5, hcz67_6, hcz67_7, hcz67_8, hcz67_9⟩ := ce10 BK117.out
                                        obtain ⟨hfz67_0, hfz67_1, hfz67_2, hfz67_3, hfz67_4, hfz67_5, hfz67_6, hfz67_7, hfz67_8, hfz67_9⟩ := fr10 BK117.out
                                        go_wp2_with (first | (go_at_call 20; (with_reducible refine (spec_l1in.calls a0_8 0 4096 t127 _ A66.out).mono ?_); rintro e w' ⟨rfl, ⟨nd, rfl⟩⟩))
                                        go_meet
                                        case rel => exact ⟨_, (!t127), (by first | rfl | (simp; done) | (simp [*]; done)), H', ⟨by have := HJ3.out; have := HJ16.out; have := HJ20.out; have := HJ42.out; have := HJ50.out; first | omega | exact Nat.le_refl _⟩, ⟨bk BK117⟩, ⟨bl HB⟩⟩
                                    · rw [if_neg c63] at H
                                      have c63b0 : (a0_0 == 6) = false := beq_eq_false_iff_ne.mpr c63
                                      have c63b1 : (a0_0 != 6) = true := bne_iff_ne.mpr c63
                                      have H' := Aside0.mk H
                                      clear H
                                      obtain ⟨hcz68_0, hcz68_1, hcz68_2, hcz68_3, hcz68_4, hcz68_5, hcz68_6, hcz68_7, hcz68_8, hcz68_9⟩ := ce10 BK117.out
                                      obtain ⟨hfz68_0, hfz68_1, hfz68_2, hfz68_3, hfz68_4, hfz68_5, hfz68_6, hfz68_7, hfz68_8, hfz68_9⟩ := fr10 BK117.out
                                      go_wp2
                                      go_meet
                                      case rel => exact ⟨_, (true), (by first | rfl | (simp; done) | (simp [*]; done)), H', ⟨by have := HJ3.out; have := HJ16.out; have := HJ20.out; have := HJ42.out; have := HJ50.out; first | omega | exact Nat.le_refl _⟩, ⟨bk BK117⟩, ⟨bl HB⟩⟩
                                case rest => as_aux_lemma =>
                                  clear HC60
                                  try clear p2
                                  try clear c3
                                  try clear c4
                                  try clear c5
                                  try clear c6
                                  try clear c35
                                  try clear c35b0
                                  try clear c37
                                  try clear c37b0
                                  try clear c37b1
                                  try clear c39
                                  try clear c39b0
                                  try clear c39b1
                                  try clear c44
                                  try clear c44b0
                                  try clear c44b1
                                  try clear c46
                                  try clear c50
                                  try clear c52
                                  try clear c53
                                  try clear c53b0
                                  try clear c53b1
                                  try clear c59
                                  try clear c61
                                  try clear c61b0
                                  try clear c61b1
                                  try clear c63
                                  try clear c63b0
                                  try clear c63b1
                                  try clear c64
                                  try clear c64b0
                                  try clear c64b1
                                  try clear hcz11_0 hcz11_1 hcz11_2 hcz11_3 hcz11_4 hcz11_5 hcz11_6 hcz11_7 hcz11_8 hcz11_9
                                  try clear hcz12_0 hcz12_1 hcz12_2 hcz12_3 hcz12_4 hcz12_5 hcz12_6 hcz12_7 hcz12_8 hcz12_9
                                  try clear hcz13_0 hcz13_1 hcz13_2 hcz13_3 hcz13_4 hcz13_5 hcz13_6 hcz13_7 hcz13_8 hcz13_9
                                  try clear hcz18_0 hcz18_1 hcz18_2 hcz18_3 hcz18_4 hcz18_5 hcz18_6 hcz18_7 hcz18_8 hcz18_9
                                  try clear hcz28_0 hcz28_1 hcz28_2 hcz28_3 hcz28_4 hcz28_5 hcz28_6 hcz28_7 hcz28_8 hcz28_9
                                  try clear hcz29_0 hcz29_1 hcz29_2 hcz29_3 hcz29_4 hcz29_5 hcz29_6 hcz29_7 hcz29_8 hcz29_9
                                  try clear hcz30_0 hcz30_1 hcz30_2 hcz30_3 hcz30_4 hcz30_5 hcz30_6 hcz30_7 hcz30_8 hcz30_9
                                  try clear hcz31_0 hcz31_1 hcz31_2 hcz31_3 hcz31_4 hcz31_5 hcz31_6 hcz31_7 hcz31_8 hcz31_9
                                  try clear hcz34_0 hcz34_1 hcz34_2 hcz34_3 hcz34_4 hcz34_5 hcz34_6 hcz34_7 hcz34_8 hcz34_9
                                  try clear hcz36_0 hcz36_1 hcz36_2 hcz36_3 hcz36_4 hcz36_5 hcz36_6 hcz36_7 hcz36_8 hcz36_9
                                  try clear hcz38_0 hcz38_1 hcz38_2 hcz38_3 hcz38_4 hcz38_5 hcz38_6 hcz38_7 hcz38_8 hcz38_9
                                  try clear hcz40_0 hcz40_1 hcz40_2 hcz40_3 hcz40_4 hcz40_5 hcz40_6 hcz40_7 hcz40_8 hcz40_9
                                  try clear hcz41_0 hcz41_1 hcz41_2 hcz41_3 hcz41_4 hcz41_5 hcz41_6 hcz41_7 hcz41_8 hcz41_9
                                  try clear hcz42_0 hcz42_1 hcz42_2 hcz42_3 hcz42_4 hcz42_5 hcz42_6 hcz42_7 hcz42_8 hcz42_9
                                  try clear hcz47_0 hcz47_1 hcz47_2 hcz47_3 hcz47_4 hcz47_5 hcz47_6 hcz47_7 hcz47_8 hcz47_9
                                  try clear hcz48_0 hcz48_1 hcz48_2 hcz48_3 hcz48_4 hcz48_5 hcz48_6 hcz48_7 hcz48_8 hcz48_9
                                  try clear hcz49_0 hcz49_1 hcz49_2 hcz49_3 hcz49_4 hcz49_5 hcz49_6 hcz49_7 hcz49_8 hcz49_9
                                  try clear hcz55_0 hcz55_1 hcz55_2 hcz55_3 hcz55_4 hcz55_5 hcz55_6 hcz55_7 hcz55_8 hcz55_9
                                  try clear hcz56_0 hcz56_1 hcz56_2 hcz56_3 hcz56_4 hcz56_5 hcz56_6 hcz56_7 hcz56_8 hcz56_9
                                  try clear hcz58_0 hcz58_1 hcz58_2 hcz58_3 hcz58_4 hcz58_5 hcz58_6 hcz58_7 hcz58_8 hcz58_9
                                  try clear hcz62_0 hcz62_1 hcz62_2 hcz62_3 hcz62_4 hcz62_5 hcz62_6 hcz62_7 hcz62_8 hcz62_9
                                  try clear hcz65_0 hcz65_1 hcz65_2 hcz65_3 hcz65_4 hcz65_5 hcz65_6 hcz65_7 hcz65_8 hcz65_9
                                  try clear hcz67_0 hcz67_1 hcz67_2 hcz67_3 hcz67_4 hcz67_5 hcz67_6 hcz67_7 hcz67_8 hcz67_9
                                  try clear hcz68_0 hcz68_1 hcz68_2 hcz68_3 hcz68_4 hcz68_5 hcz68_6 hcz68_7 hcz68_8 hcz68_9
                                  try clear hcz6_0 hcz6_1 hcz6_2 hcz6_3 hcz6_4 hcz6_5 hcz6_6 hcz6_7 hcz6_8 hcz6_9
                                  try clear hfz11_0 hfz11_1 hfz11_2 hfz11_3 hfz11_4 hfz11_5 hfz11_6 hfz11_7 hfz11_8 hfz11_9
                                  try clear hfz12_0 hfz12_1 hfz12_2 hfz12_3 hfz12_4 hfz12_5 hfz12_6 hfz12_7 hfz12_8 hfz12_9
                                  try clear hfz13_0 hfz13_1 hfz13_2 hfz13_3 hfz13_4 hfz13_5 hfz13_6 hfz13_7 hfz13_8 hfz13_9
                                  try clear hfz18_0 hfz18_1 hfz18_2 hfz18_3 hfz18_4 hfz18_5 hfz18_6 hfz18_7 hfz18_8 hfz18_9
                                  try clear hfz28_0 hfz28_1 hfz28_2 hfz28_3 hfz28_4 hfz28_5 hfz28_6 hfz28_7 hfz28_8 hfz28_9
                                  try clear hfz29_0 hfz29_1 hfz29_2 hfz29_3 hfz29_4 hfz29_5 hfz29_6 hfz29_7 hfz29_8 hfz29_9
                                  try clear hfz30_0 hfz30_1 hfz30_2 hfz30_3 hfz30_4 hfz30_5 hfz30_6 hfz30_7 hfz30_8 hfz30_9
                                  try clear hfz31_0 hfz31_1 hfz31_2 hfz31_3 hfz31_4 hfz31_5 hfz31_6 hfz31_7 hfz31_8 hfz31_9
                                  try clear hfz34_0 hfz34_1 hfz34_2 hfz34_3 hfz34_4 hfz34_5 hfz34_6 hfz34_7 hfz34_8 hfz34_9
                                  try clear hfz36_0 hfz36_1 hfz36_2 hfz36_3 hfz36_4 hfz36_5 hfz36_6 hfz36_7 hfz36_8 hfz36_9
                                  try clear hfz38_0 hfz38_1 hfz38_2 hfz38_3 hfz38_4 hfz38_5 hfz38_6 hfz38_7 hfz38_8 hfz38_9
                                  try clear hfz40_0 hfz40_1 hfz40_2 hfz40_3 hfz40_4 hfz40_5 hfz40_6 hfz40_7 hfz40_8 hfz40_9
                                  try clear hfz41_0 hfz41_1 hfz41_2 hfz41_3 hfz41_4 hfz41_5 hfz41_6 hfz41_7 hfz41_8 hfz41_9
                                  try clear hfz42_0 hfz42_1 hfz42_2 hfz42_3 hfz42_4 hfz42_5 hfz42_6 hfz42_7 hfz42_8 hfz42_9
                                  try clear hfz47_0 hfz47_1 hfz47_2 hfz47_3 hfz47_4 hfz47_5 hfz47_6 hfz47_7 hfz47_8 hfz47_9
                                  try clear hfz48_0 hfz48_1 hfz48_2 hfz48_3 hfz48_4 hfz48_5 hfz48_6 hfz48_7 hfz48_8 hfz48_9
                                  try clear hfz49_0 hfz49_1 hfz49_2 hfz49_3 hfz49_4 hfz49_5 hfz49_6 hfz49_7 hfz49_8 hfz49_9
                                  try clear hfz55_0 hfz55_1 hfz55_2 hfz55_3 hfz55_4 hfz55_5 hfz55_6 hfz55_7 hfz55_8 hfz55_9
                                  try clear hfz56_0 hfz56_1 hfz56_2 hfz56_3 hfz56_4 hfz56_5 hfz56_6 hfz56_7 hfz56_8 hfz56_9
                                  try clear hfz58_0 hfz58_1 hfz58_2 hfz58_3 hfz58_4 hfz58_5 hfz58_6 hfz58_7 hfz58_8 hfz58_9
                                  try clear hfz62_0 hfz62_1 hfz62_2 hfz62_3 hfz62_4 hfz62_5 hfz62_6 hfz62_7 hfz62_8 hfz62_9
                                  try clear hfz65_0 hfz65_1 hfz65_2 hfz65_3 hfz65_4 hfz65_5 hfz65_6 hfz65_7 hfz65_8 hfz65_9
                                  try clear hfz67_0 hfz67_1 hfz67_2 hfz67_3 hfz67_4 hfz67_5 hfz67_6 hfz67_7 hfz67_8 hfz67_9
                                  try clear hfz68_0 hfz68_1 hfz68_2 hfz68_3 hfz68_4 hfz68_5 hfz68_6 hfz68_7 hfz68_8 hfz68_9
                                  try clear hfz6_0 hfz6_1 hfz6_2 hfz6_3 hfz6_4 hfz6_5 hfz6_6 hfz6_7 hfz6_8 hfz6_9
                                  try clear p2
                                  obtain ⟨kq, x131_59, rfl, HA, HJ59, BK117, HB⟩ := hcut
                                  cases kq with
                                  | zero => exact absurd HA.out (by simp [spec_MsgFault.j5])
                                  | succ kj59 =>
                                    have H := HA.out
                                    clear HA
                                    simp only [spec_MsgFault.j5] at H
                                    by_cases c69 : x131_59 = true
                                    · subst c69
                                      have H1 : (some 5) = some r := by rw [if_pos rfl] at H; exact H
                                      clear H
                                      have H := H1
                                      clear H1
                                      obtain rfl := Option.some.inj H
                                      go_wp2
                                      go_ret
                                      exact ⟨by first | rfl | (simp [errW_none, errW_some] <;> rfl) | (simp [*, errW_none, errW_some] <;> rfl), bl HB⟩
                                    · replace c69 := Bool.eq_false_iff.mpr c69
                                      subst c69
                                      have H1 : (if a0_0 = 5 then (if (l0_9.length : Int) > 32 then (some 6) else (if (wrap64 (a0_4 + (l0_9.length : Int))) > 4096 then (some 6) else ((spec_l1rising.f kj59 l0_9 a0_5 a0_3).bind fun t128 => (if t128 = true then (some 0) else (some 6))))) else (if (l0_9.length : Int) = 0 then (some 0) else (some 6))) = some r := by rw [if_neg (show ¬ (false = true) by decide)] at H; exact H
                                      clear H
                                      have H := H1
                                      clear H1
                                      by_cases c70 : a0_0 = 5
                                      · rw [if_pos c70] at H
                                        have c70b0 : (a0_0 == 5) = true := beq_iff_eq.mpr c70
                                        have c70b1 : (a0_0 != 5) = false := bne_eq_false_iff_eq.mpr c70
                                        clear c70
                                        by_cases c71 : (l0_9.length : Int) > 32
                                        · rw [if_pos c71] at H
                                          have c71b0 : decide (32 < (l0_9.length : Int)) = true := decide_eq_true c71
                                          have c71b1 : decide (32 < l0_9.length) = true := decide_eq_true (by omega)
                                          clear c71
                                          obtain rfl := Option.some.inj H
                                          obtain ⟨hcz72_0, hcz72_1, hcz72_2, hcz72_3, hcz72_4, hcz72_5, hcz72_6, hcz72_7, hcz72_8, hcz72_9⟩ := ce10 BK117.out
                                          obtain ⟨hfz72_0, hfz72_1, hfz72_2, hfz72_3, hfz72_4, hfz72_5, hfz72_6, hfz72_7, hfz72_8, hfz72_9⟩ := fr10 BK117.out
                                          go_wp2
                                          go_ret
                                          exact ⟨by first | rfl | (simp [errW_none, errW_some] <;> rfl) | (simp [*, errW_none, errW_some] <;> rfl), bl HB⟩
                                        · rw [if_neg c71] at H
                                          have c71b0 : decide (32 < (l0_9.length : Int)) = false := decide_eq_false c71
                                          have c71b1 : decide (32 < l0_9.length) = false := decide_eq_false (by omega)
                                          clear c71
                                          by_cases c73 : (wrap64 (a0_4 + (l0_9.length : Int))) > 4096
                                          · rw [if_pos c73] at H
                                            have c73b0 : decide (4096 < (wrap64 (a0_4 + (l0_9.length : Int)))) = true := decide_eq_true c73
                                            clear c73
                                            obtain rfl := Option.some.inj H
                                            obtain ⟨hcz74_0, hcz74_1, hcz74_2, hcz74_3, hcz74_4, hcz74_5, hcz74_6, hcz74_7, hcz74_8, hcz74_9⟩ := ce10 BK117.out
                                            obtain ⟨hfz74_0, hfz74_1, hfz74_2, hfz74_3, hfz74_4, hfz74_5, hfz74_6, hfz74_7, hfz74_8, hfz74_9⟩ := fr10 BK117.out
                                            go_wp2
                                            go_ret
                                            exact ⟨by first | rfl | (simp [errW_none, errW_some] <;> rfl) | (simp [*, errW_none, errW_some] <;> rfl), bl HB⟩
                                          · rw [if_neg c73] at H
                                            have c73b0 : decide (4096 < (wrap64 (a0_4 + (l0_9.length : Int)))) = false := decide_eq_false c73
                                            clear c73
                                            replace H := Option.bind_eq_some_iff.mp H
                                            obtain ⟨t128, A750, H⟩ := H
                                            replace H : (if t128 = true then (some 0) else (some 6)) = some r := H
                                            have A75 := Aside0.mk A750
                                            clear A750
                                            by_cases c76 : t128 = true
                                            · subst c76
                                              have H1 : (some 0) = some r := by rw [if_pos rfl] at H; exact H
                                              clear H
                                              have H := H1
                                              clear H1
                                              obtain rfl := Option.some.inj H
                                              obtain ⟨hcz77_0, hcz77_1, hcz77_2, hcz77_3, hcz77_4, hcz77_5, hcz77_6, hcz77_7, hcz77_8, hcz77_9⟩ := ce10 BK117.out
                                              obtain ⟨hfz77_0, hfz77_1, hfz77_2, hfz77_3, hfz77_4, hfz77_5, hfz77_6, hfz77_7, hfz77_8, hfz77_9⟩ := fr10 BK117.out
                                              go_wp2_with (first | (go_at_call 21; (with_reducible refine (spec_l1rising.calls kj59 _ _ l0_9 a0_5 a0_3 true _ ?side1 ?side2 A75.out).mono ?_); (case side1 => repeat (first | exact (Kd.C_below HR0_9.out HB.out) | (with_reducible refine Kd.C_alloc ?_ _) | (with_reducible refine Kd.C_drewN ?_ _) | (with_reducible refine Kd.C_drew ?_))); (case side2 => exact HC0_9.out); rintro e w78 ⟨rfl, hb⟩; have n0_ := Aside0.mk (blk_below (bk BK117) hb); have n1_ := Aside0.mk (below_step (bl HB) hb); clear BK117; clear HB; have BK117 := n0_; have HB := n1_; clear n0_ n1_; (try clear hb); (try clear hb2); (try clear hk); (try clear hi)))
                                              go_ret
                                              exact ⟨by first | rfl | (simp [errW_none, errW_some] <;> rfl) | (simp [*, errW_none, errW_some] <;> rfl), bl HB⟩
                                            · replace c76 := Bool.eq_false_iff.mpr c76
                                              subst c76
                                              have H1 : (some 6) = some r := by rw [if_neg (show ¬ (false = true) by decide)] at H; exact H
                                              clear H
                                              have H := H1
                                              clear H1
                                              obtain rfl := Option.some.inj H
                                              obtain ⟨hcz79_0, hcz79_1, hcz79_2, hcz79_3, hcz79_4, hcz79_5, hcz79_6, hcz79_7, hcz79_8, hcz79_9⟩ := ce10 BK117.out
                                              obtain ⟨hfz79_0, hfz79_1, hfz79_2, hfz79_3, hfz79_4, hfz79_5, hfz79_6, hfz79_7, hfz79_8, hfz79_9⟩ := fr10 BK117.out
                                              go_wp2_with (first | (go_at_call 21; (with_reducible refine (spec_l1rising.calls kj59 _ _ l0_9 a0_5 a0_3 false _ ?side1 ?side2 A75.out).mono ?_); (case side1 => repeat (first | exact (Kd.C_below HR0_9.out HB.out) | (with_reducible refine Kd.C_alloc ?_ _) | (with_reducible refine Kd.C_drewN ?_ _) | (with_reducible refine Kd.C_drew ?_))); (case side2 => exact HC0_9.out); rintro e w80 ⟨rfl, hb⟩; have n0_ := Aside0.mk (blk_below (bk BK117) hb); have n1_ := Aside0.mk (below_step (bl HB) hb); clear BK117; clear HB; have BK117 := n0_; have HB := n1_; clear n0_ n1_; (try clear hb); (try clear hb2); (try clear hk); (try clear hi)))
                                              go_ret
                                              exact ⟨by first | rfl | (simp [errW_none, errW_some] <;> rfl) | (simp [*, errW_none, errW_some] <;> rfl), bl HB⟩
                                      · rw [if_neg c70] at H
                                        have c70b0 : (a0_0 == 5) = false := beq_eq_false_iff_ne.mpr c70
                                        have c70b1 : (a0_0 != 5) = true := bne_iff_ne.mpr c70
                                        by_cases c81 : (l0_9.length : Int) = 0
                                        · rw [if_pos c81] at H
                                          have c81b0 : ((l0_9.length : Int) == 0) = true := beq_iff_eq.mpr c81
                                          have c81b1 : ((l0_9.length : Int) != 0) = false := bne_eq_false_iff_eq.mpr c81
                                          clear c81
                                          obtain rfl := Option.some.inj H
                                          obtain ⟨hcz82_0, hcz82_1, hcz82_2, hcz82_3, hcz82_4, hcz82_5, hcz82_6, hcz82_7, hcz82_8, hcz82_9⟩ := ce10 BK117.out
                                          obtain ⟨hfz82_0, hfz82_1, hfz82_2, hfz82_3, hfz82_4, hfz82_5, hfz82_6, hfz82_7, hfz82_8, hfz82_9⟩ := fr10 BK117.out
                                          go_wp2
                                          go_ret
                                          exact ⟨by first | rfl | (simp [errW_none, errW_some] <;> rfl) | (simp [*, errW_none, errW_some] <;> rfl), bl HB⟩
                                        · rw [if_neg c81] at H
                                          have c81b0 : ((l0_9.length : Int) == 0) = false := beq_eq_false_iff_ne.mpr c81
                                          have c81b1 : ((l0_9.length : Int) != 0) = true := bne_iff_ne.mpr c81
                                          have c81b2 : ¬ (l0_9 = []) := fun h_ => c81 (by rw [h_]; rfl)
                                          obtain rfl := Option.some.inj H
                                          obtain ⟨hcz83_0, hcz83_1, hcz83_2, hcz83_3, hcz83_4, hcz83_5, hcz83_6, hcz83_7, hcz83_8, hcz83_9⟩ := ce10 BK117.out
                                          obtain ⟨hfz83_0, hfz83_1, hfz83_2, hfz83_3, hfz83_4, hfz83_5, hfz83_6, hfz83_7, hfz83_8, hfz83_9⟩ := fr10 BK117.out
                                          go_wp2
                                          go_ret
                                          exact ⟨by first | rfl | (simp [errW_none, errW_some] <;> rfl) | (simp [*, errW_none, errW_some] <;> rfl), bl HB⟩
          · replace c16 := Bool.eq_false_iff.mpr c16
            subst c16
            have H1 : (some 3) = some r := by rw [if_neg (show ¬ (false = true) by decide)] at H; exact H
            clear H
            have H := H1
            clear H1
            obtain rfl := Option.some.inj H
            obtain ⟨hcz84_0, hcz84_1, hcz84_2, hcz84_3, hcz84_4, hcz84_5, hcz84_6, hcz84_7, hcz84_8, hcz84_9⟩ := ce10 BK117.out
            obtain ⟨hfz84_0, hfz84_1, hfz84_2, hfz84_3, hfz84_4, hfz84_5, hfz84_6, hfz84_7, hfz84_8, hfz84_9⟩ := fr10 BK117.out
            go_wp2_with (first | ((with_reducible refine gate_callee (f := 20) rfl ?_); refine goesL_ (some 29) rfl rfl Try.func20 (by kernel_rfl) rfl #[.int .i64 a0_3, .int .i64 1, .int .i64 1073741824] rfl (by (try simp only [List.map_toArray, List.map_cons, List.map_nil]); first | done | rfl | (simp only [List.length_drop, List.length_take]; rfl)) ?_; (with_reducible refine (spec_l1in.calls a0_3 1 1073741824 false _ A15.out).mono ?_); rintro e w' ⟨rfl, ⟨nd, rfl⟩⟩; refine ⟨_, rfl, ?_⟩))
            go_ret
            exact ⟨by first | rfl | (simp [errW_none, errW_some] <;> rfl) | (simp [*, errW_none, errW_some] <;> rfl), bl HB⟩
  · replace c3 := Bool.eq_false_iff.mpr c3
    subst c3
    have H1 : (some 1) = some r := by rw [if_neg (show ¬ (false = true) by decide)] at H; exact H
    clear H
    have H := H1
    clear H1
    obtain rfl := Option.some.inj H
    go_enter Try.func6, Try.ntmps6
    go_wp2_with (first | ((with_reducible refine gate_dst (N := 1) rfl ?_); (try (refine gate_guard (by rfl) ?_; dsimp only)); refine box_event ?hg (N := 1) ?hd (cs := #[.int .i64 a0_0, .int .i64 a0_1, .int .i64 a0_2, .int .i64 a0_3, .int .i64 a0_4, .int .i64 a0_5, .int .i64 a0_6, .int .i64 a0_7, .int .i64 a0_8, .slice A0_9 l0_9.length c0_9]) (t := 29) ?hr ?_; (case hd => rfl); (case hg => rfl); (case hr => first | (go_simp; done) | (go_simp; rfl)); intro gb117 hg w85 hbox hb; have n0_ := Aside0.mk (below_step (bl HB) hb); have n1_ := Aside0.mk (hbox); have n2_ := Aside0.mk (gS hg (bl HB)); have n3_ := Aside0.mk (gS hg (bl HB)); clear HB; have HB := n0_; have BK117 := n1_; have GW117 := n2_; have GE117 := n3_; clear n0_ n1_ n2_ n3_; clear hb hbox hg; obtain ⟨hcz86_0, hcz86_1, hcz86_2, hcz86_3, hcz86_4, hcz86_5, hcz86_6, hcz86_7, hcz86_8, hcz86_9⟩ := ce10 BK117.out; obtain ⟨hfz86_0, hfz86_1, hfz86_2, hfz86_3, hfz86_4, hfz86_5, hfz86_6, hfz86_7, hfz86_8, hfz86_9⟩ := fr10 BK117.out) | ((with_reducible refine gate_callee (f := 20) rfl ?_); refine goesL_ (some 8) rfl rfl Try.func20 (by kernel_rfl) rfl #[.int .i64 a0_0, .int .i64 1, .int .i64 6] rfl (by (try simp only [List.map_toArray, List.map_cons, List.map_nil]); first | done | rfl | (simp only [List.length_drop, List.length_take]; rfl)) ?_; (with_reducible refine (spec_l1in.calls a0_0 1 6 false _ A2.out).mono ?_); rintro e w' ⟨rfl, ⟨nd, rfl⟩⟩; refine ⟨_, rfl, ?_⟩))
    go_ret
    exact ⟨by first | rfl | (simp [errW_none, errW_some] <;> rfl) | (simp [*, errW_none, errW_some] <;> rfl), bl HB⟩

end Go.Proofs.Ytnbcpiaajckoaaa.P
