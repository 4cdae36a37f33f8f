-- WRITTEN by a turned copy of the kit's print program (wip/bin/mkprint.py of this work): Lean checks it.
import Derived.Test.YtmiocbonmknioaaPx0
import Derived.Test.YtmiocbonmknioaaPx10
import Derived.Test.YtmiocbonmknioaaPx11
namespace Go.Proofs.Ytmiocbonmknioaa.P
open Go.RowKit Go.Proofs.YtmiocbonmknioaaW.PrintWords Go.Proofs.YtmiocbonmknioaaW.PrintLast Go.Proofs.YtmiocbonmknioaaW.PrintMore
attribute [local go_sem] max2_int min2_int max_two min_two max_three min_three max_four min_four   -- for this text's walks alone
set_option linter.unusedVariables false
set_option linter.unusedSimpArgs false

/-! ### laws_FnSlots: function 8 -/
mutual
def laws_FnSlots.j0 : Nat → List Int → List Int → Bool → Option (Bool)
  | 0, _, _, _ => none
  | k + 1, x0, x1, x27 => if x27 = true then (some true) else ((spec_DrawTimeoutOf.f k x0).bind fun bt243 => (if bt243.1 ≥ 1 then (laws_FnSlots.j1 k x0 x1 bt243.1 bt243.2 (decide (bt243.1 ≤ 1000))) else (laws_FnSlots.j1 k x0 x1 bt243.1 bt243.2 false)))
def laws_FnSlots.j1 : Nat → List Int → List Int → Int → Int → Bool → Option (Bool)
  | 0, _, _, _, _, _ => none
  | k + 1, x0, x1, x5, x6, x38 => if x38 = true then ((impl_TimeoutOf.f x5 x6).bind fun t245 => (if t245 < x5 then (none) else (if t245 > (wrap64 ((wrap64 (2 * x5)) - 1)) then (none) else (laws_FnSlots.j2 k x0 x1)))) else (laws_FnSlots.j2 k x0 x1)
def laws_FnSlots.j2 : Nat → List Int → List Int → Option (Bool)
  | 0, _, _ => none
  | k + 1, x0, x1 => (spec_DrawSlotDraw.f k x0).bind fun bt246 => ((spec_DrawSlotDraw.f k x1).bind fun bt250 => (if bt246.2.1 = 3 then (laws_FnSlots.j3 k bt246.1 bt246.2.1 bt246.2.2.2 bt250.2.2.2 false) else (if bt246.2.1 = 5 then (laws_FnSlots.j3 k bt246.1 bt246.2.1 bt246.2.2.2 bt250.2.2.2 false) else (laws_FnSlots.j3 k bt246.1 bt246.2.1 bt246.2.2.2 bt250.2.2.2 (bt246.2.1 != 7)))))
def laws_FnSlots.j3 : Nat → Int → Int → Int → Int → Bool → Option (Bool)
  | 0, _, _, _, _, _ => none
  | k + 1, x8, x9, x11, x15, x75 => if x75 = true then (laws_FnSlots.j4 k x8 7 x11 x15) else (laws_FnSlots.j4 k x8 x9 x11 x15)
def laws_FnSlots.j4 : Nat → Int → Int → Int → Int → Option (Bool)
  | 0, _, _, _, _ => none
  | k + 1, x8, x9, x11, x15 => if x8 < (wrap64 (8 * x9)) then (laws_FnSlots.j5 k (wrap64 (x8 + (wrap64 (8 * x9)))) x9 x11 x15) else (laws_FnSlots.j5 k x8 x9 x11 x15)
def laws_FnSlots.j5 : Nat → Int → Int → Int → Int → Option (Bool)
  | 0, _, _, _, _ => none
  | k + 1, x8, x9, x11, x15 => if x8 > 1000 then (laws_FnSlots.j6 k 1000 x9 x11 x15) else (laws_FnSlots.j6 k x8 x9 x11 x15)
def laws_FnSlots.j6 : Nat → Int → Int → Int → Int → Option (Bool)
  | 0, _, _, _, _ => none
  | k + 1, x8, x9, x11, x15 => if x11 < 0 then (laws_FnSlots.j7 k x8 x9 x11 x15 true) else (laws_FnSlots.j7 k x8 x9 x11 x15 (decide (x11 > 1099511627776)))
def laws_FnSlots.j7 : Nat → Int → Int → Int → Int → Bool → Option (Bool)
  | 0, _, _, _, _, _ => none
  | k + 1, x8, x9, x11, x15, x91 => if x91 = true then (laws_FnSlots.j8 k x8 x9 0 x15) else (laws_FnSlots.j8 k x8 x9 x11 x15)
def laws_FnSlots.j8 : Nat → Int → Int → Int → Int → Option (Bool)
  | 0, _, _, _, _ => none
  | k + 1, x8, x9, x11, x15 => if x15 < 0 then (laws_FnSlots.j9 k x8 x9 x11 x15 true) else (laws_FnSlots.j9 k x8 x9 x11 x15 (decide (x15 > 1099511627776)))
def laws_FnSlots.j9 : Nat → Int → Int → Int → Int → Bool → Option (Bool)
  | 0, _, _, _, _, _ => none
  | k + 1, x8, x9, x11, x15, x97 => if x97 = true then (laws_FnSlots.j10 k x8 x9 x11 3) else (laws_FnSlots.j10 k x8 x9 x11 x15)
def laws_FnSlots.j10 : Nat → Int → Int → Int → Int → Option (Bool)
  | 0, _, _, _, _ => none
  | k + 1, x8, x9, x11, x15 => laws_FnSlots.l0 k x8 x9 x11 x15 1
def laws_FnSlots.l0 : Nat → Int → Int → Int → Int → Int → Option (Bool)
  | 0, _, _, _, _, _ => none
  | k + 1, x8, x9, x11, x15, x16 => if x16 ≤ x9 then (laws_FnSlots.l1 k x8 x9 x11 x15 x16 1) else (some true)
def laws_FnSlots.l1 : Nat → Int → Int → Int → Int → Int → Int → Option (Bool)
  | 0, _, _, _, _, _, _ => none
  | k + 1, x8, x9, x11, x15, x16, x17 => if x17 ≤ x9 then ((impl_SlotDraw.f x8 x9 x16 x11).bind fun t254 => ((impl_TimeoutOf.f x8 t254).bind fun t255 => ((impl_SlotDraw.f x8 x9 x17 x15).bind fun t256 => ((impl_TimeoutOf.f x8 t256).bind fun t257 => (if (wrap64 (x11 + t255)) < (wrap64 (x11 + x8)) then (none) else (if (wrap64 (x15 + t257)) < (wrap64 (x15 + x8)) then (none) else (if x16 = x17 then (laws_FnSlots.l1 k x8 x9 x11 x15 x16 (wrap64 (x17 + 1))) else ((laws_far.f (wrap64 (x11 + t255)) (wrap64 (x15 + t257))).bind fun t258 => (if t258 = true then (laws_FnSlots.l1 k x8 x9 x11 x15 x16 (wrap64 (x17 + 1))) else (none)))))))))) else (laws_FnSlots.l0 k x8 x9 x11 x15 (wrap64 (x16 + 1)))
end
def laws_FnSlots.f (k : Nat) (l0 : List Int) (l1 : List Int) : Option (Bool) := if (l0.length : Int) > 1048576 then (laws_FnSlots.j0 k l0 l1 true) else (laws_FnSlots.j0 k l0 l1 (decide ((l1.length : Int) > 1048576)))
theorem laws_FnSlots.mono_l : ∀ k, (∀ y0 y1 y2, LeO (laws_FnSlots.j0 k y0 y1 y2) (laws_FnSlots.j0 (k + 1) y0 y1 y2)) ∧ (∀ y0 y1 y2 y3 y4, LeO (laws_FnSlots.j1 k y0 y1 y2 y3 y4) (laws_FnSlots.j1 (k + 1) y0 y1 y2 y3 y4)) ∧ (∀ y0 y1, LeO (laws_FnSlots.j2 k y0 y1) (laws_FnSlots.j2 (k + 1) y0 y1)) ∧ (∀ y0 y1 y2 y3 y4, LeO (laws_FnSlots.j3 k y0 y1 y2 y3 y4) (laws_FnSlots.j3 (k + 1) y0 y1 y2 y3 y4)) ∧ (∀ y0 y1 y2 y3, LeO (laws_FnSlots.j4 k y0 y1 y2 y3) (laws_FnSlots.j4 (k + 1) y0 y1 y2 y3)) ∧ (∀ y0 y1 y2 y3, LeO (laws_FnSlots.j5 k y0 y1 y2 y3) (laws_FnSlots.j5 (k + 1) y0 y1 y2 y3)) ∧ (∀ y0 y1 y2 y3, LeO (laws_FnSlots.j6 k y0 y1 y2 y3) (laws_FnSlots.j6 (k + 1) y0 y1 y2 y3)) ∧ (∀ y0 y1 y2 y3 y4, LeO (laws_FnSlots.j7 k y0 y1 y2 y3 y4) (laws_FnSlots.j7 (k + 1) y0 y1 y2 y3 y4)) ∧ (∀ y0 y1 y2 y3, LeO (laws_FnSlots.j8 k y0 y1 y2 y3) (laws_FnSlots.j8 (k + 1) y0 y1 y2 y3)) ∧ (∀ y0 y1 y2 y3 y4, LeO (laws_FnSlots.j9 k y0 y1 y2 y3 y4) (laws_FnSlots.j9 (k + 1) y0 y1 y2 y3 y4)) ∧ (∀ y0 y1 y2 y3, LeO (laws_FnSlots.j10 k y0 y1 y2 y3) (laws_FnSlots.j10 (k + 1) y0 y1 y2 y3)) ∧ (∀ y0 y1 y2 y3 y4, LeO (laws_FnSlots.l0 k y0 y1 y2 y3 y4) (laws_FnSlots.l0 (k + 1) y0 y1 y2 y3 y4)) ∧ (∀ y0 y1 y2 y3 y4 y5, LeO (laws_FnSlots.l1 k y0 y1 y2 y3 y4 y5) (laws_FnSlots.l1 (k + 1) y0 y1 y2 y3 y4 y5))
  | 0 => ⟨fun _ _ _ r h => by simp [laws_FnSlots.j0] at h, fun _ _ _ _ _ r h => by simp [laws_FnSlots.j1] at h, fun _ _ r h => by simp [laws_FnSlots.j2] at h, fun _ _ _ _ _ r h => by simp [laws_FnSlots.j3] at h, fun _ _ _ _ r h => by simp [laws_FnSlots.j4] at h, fun _ _ _ _ r h => by simp [laws_FnSlots.j5] at h, fun _ _ _ _ r h => by simp [laws_FnSlots.j6] at h, fun _ _ _ _ _ r h => by simp [laws_FnSlots.j7] at h, fun _ _ _ _ r h => by simp [laws_FnSlots.j8] at h, fun _ _ _ _ _ r h => by simp [laws_FnSlots.j9] at h, fun _ _ _ _ r h => by simp [laws_FnSlots.j10] at h, fun _ _ _ _ _ r h => by simp [laws_FnSlots.l0] at h, fun _ _ _ _ _ _ r h => by simp [laws_FnSlots.l1] at h⟩
  | k + 1 => by
    obtain ⟨ih0, ih1, ih2, ih3, ih4, ih5, ih6, ih7, ih8, ih9, ih10, ih11, ih12⟩ := laws_FnSlots.mono_l k
    refine ⟨?_, ?_, ?_, ?_, ?_, ?_, ?_, ?_, ?_, ?_, ?_, ?_, ?_⟩
    · intro y0 y1 y2
      unfold laws_FnSlots.j0
      repeat' first
      | (with_reducible exact ih0 _ _ _)
      | (with_reducible exact ih1 _ _ _ _ _)
      | (with_reducible exact ih2 _ _)
      | (with_reducible exact ih3 _ _ _ _ _)
      | (with_reducible exact ih4 _ _ _ _)
      | (with_reducible exact ih5 _ _ _ _)
      | (with_reducible exact ih6 _ _ _ _)
      | (with_reducible exact ih7 _ _ _ _ _)
      | (with_reducible exact ih8 _ _ _ _)
      | (with_reducible exact ih9 _ _ _ _ _)
      | (with_reducible exact ih10 _ _ _ _)
      | (with_reducible exact ih11 _ _ _ _ _)
      | (with_reducible exact ih12 _ _ _ _ _ _)
      | (with_reducible exact spec_DrawSlotDraw.mono _ _)
      | (with_reducible exact spec_DrawTimeoutOf.mono _ _)
      | (with_reducible exact LeO.refl _)
      | (with_reducible exact LeO.none _)
      | (with_reducible refine LeO.ite ?_ ?_)
      | (with_reducible refine LeO.bind ?_ (fun _ => ?_))
      | exact ih0 _ _ _
      | exact ih1 _ _ _ _ _
      | exact ih2 _ _
      | exact ih3 _ _ _ _ _
      | exact ih4 _ _ _ _
      | exact ih5 _ _ _ _
      | exact ih6 _ _ _ _
      | exact ih7 _ _ _ _ _
      | exact ih8 _ _ _ _
      | exact ih9 _ _ _ _ _
      | exact ih10 _ _ _ _
      | exact ih11 _ _ _ _ _
      | exact ih12 _ _ _ _ _ _
      | exact spec_DrawSlotDraw.mono _ _
      | exact spec_DrawTimeoutOf.mono _ _
      | exact LeO.none _
      | refine LeO.ite ?_ ?_
      | refine LeO.bind ?_ (fun _ => ?_)
    · intro y0 y1 y2 y3 y4
      unfold laws_FnSlots.j1
      repeat' first
      | (with_reducible exact ih0 _ _ _)
      | (with_reducible exact ih1 _ _ _ _ _)
      | (with_reducible exact ih2 _ _)
      | (with_reducible exact ih3 _ _ _ _ _)
      | (with_reducible exact ih4 _ _ _ _)
      | (with_reducible exact ih5 _ _ _ _)
      | (with_reducible exact ih6 _ _ _ _)
      | (with_reducible exact ih7 _ _ _ _ _)
      | (with_reducible exact ih8 _ _ _ _)
      | (with_reducible exact ih9 _ _ _ _ _)
      | (with_reducible exact ih10 _ _ _ _)
      | (with_reducible exact ih11 _ _ _ _ _)
      | (with_reducible exact ih12 _ _ _ _ _ _)
      | (with_reducible exact spec_DrawSlotDraw.mono _ _)
      | (with_reducible exact spec_DrawTimeoutOf.mono _ _)
      | (with_reducible exact LeO.refl _)
      | (with_reducible exact LeO.none _)
      | (with_reducible refine LeO.ite ?_ ?_)
      | (with_reducible refine LeO.bind ?_ (fun _ => ?_))
      | exact ih0 _ _ _
      | exact ih1 _ _ _ _ _
      | exact ih2 _ _
      | exact ih3 _ _ _ _ _
      | exact ih4 _ _ _ _
      | exact ih5 _ _ _ _
      | exact ih6 _ _ _ _
      | exact ih7 _ _ _ _ _
      | exact ih8 _ _ _ _
      | exact ih9 _ _ _ _ _
      | exact ih10 _ _ _ _
      | exact ih11 _ _ _ _ _
      | exact ih12 _ _ _ _ _ _
      | exact spec_DrawSlotDraw.mono _ _
      | exact spec_DrawTimeoutOf.mono _ _
      | exact LeO.none _
      | refine LeO.ite ?_ ?_
      | refine LeO.bind ?_ (fun _ => ?_)
    · intro y0 y1
      unfold laws_FnSlots.j2
      repeat' first
      | (with_reducible exact ih0 _ _ _)
      | (with_reducible exact ih1 _ _ _ _ _)
      | (with_reducible exact ih2 _ _)
      | (with_reducible exact ih3 _ _ _ _ _)
      | (with_reducible exact ih4 _ _ _ _)
      | (with_reducible exact ih5 _ _ _ _)
      | (with_reducible exact ih6 _ _ _ _)
      | (with_reducible exact ih7 _ _ _ _ _)
      | (with_reducible exact ih8 _ _ _ _)
      | (with_reducible exact ih9 _ _ _ _ _)
      | (with_reducible exact ih10 _ _ _ _)
      | (with_reducible exact ih11 _ _ _ _ _)
      | (with_reducible exact ih12 _ _ _ _ _ _)
      | (with_reducible exact spec_DrawSlotDraw.mono _ _)
      | (with_reducible exact spec_DrawTimeoutOf.mono _ _)
      | (with_reducible exact LeO.refl _)
      | (with_reducible exact LeO.none _)
      | (with_reducible refine LeO.ite ?_ ?_)
      | (with_reducible refine LeO.bind ?_ (fun _ => ?_))
      | exact ih0 _ _ _
      | exact ih1 _ _ _ _ _
      | exact ih2 _ _
      | exact ih3 _ _ _ _ _
      | exact ih4 _ _ _ _
      | exact ih5 _ _ _ _
      | exact ih6 _ _ _ _
      | exact ih7 _ _ _ _ _
      | exact ih8 _ _ _ _
      | exact ih9 _ _ _ _ _
      | exact ih10 _ _ _ _
      | exact ih11 _ _ _ _ _
      | exact ih12 _ _ _ _ _ _
      | exact spec_DrawSlotDraw.mono _ _
      | exact spec_DrawTimeoutOf.mono _ _
      | exact LeO.none _
      | refine LeO.ite ?_ ?_
      | refine LeO.bind ?_ (fun _ => ?_)
    · intro y0 y1 y2 y3 y4
      unfold laws_FnSlots.j3
      repeat' first
      | (with_reducible exact ih0 _ _ _)
      | (with_reducible exact ih1 _ _ _ _ _)
      | (with_reducible exact ih2 _ _)
      | (with_reducible exact ih3 _ _ _ _ _)
      | (with_reducible exact ih4 _ _ _ _)
      | (with_reducible exact ih5 _ _ _ _)
      | (with_reducible exact ih6 _ _ _ _)
      | (with_reducible exact ih7 _ _ _ _ _)
      | (with_reducible exact ih8 _ _ _ _)
      | (with_reducible exact ih9 _ _ _ _ _)
      | (with_reducible exact ih10 _ _ _ _)
      | (with_reducible exact ih11 _ _ _ _ _)
      | (with_reducible exact ih12 _ _ _ _ _ _)
      | (with_reducible exact spec_DrawSlotDraw.mono _ _)
      | (with_reducible exact spec_DrawTimeoutOf.mono _ _)
      | (with_reducible exact LeO.refl _)
      | (with_reducible exact LeO.none _)
      | (with_reducible refine LeO.ite ?_ ?_)
      | (with_reducible refine LeO.bind ?_ (fun _ => ?_))
      | exact ih0 _ _ _
      | exact ih1 _ _ _ _ _
      | exact ih2 _ _
      | exact ih3 _ _ _ _ _
      | exact ih4 _ _ _ _
      | exact ih5 _ _ _ _
      | exact ih6 _ _ _ _
      | exact ih7 _ _ _ _ _
      | exact ih8 _ _ _ _
      | exact ih9 _ _ _ _ _
      | exact ih10 _ _ _ _
      | exact ih11 _ _ _ _ _
      | exact ih12 _ _ _ _ _ _
      | exact spec_DrawSlotDraw.mono _ _
      | exact spec_DrawTimeoutOf.mono _ _
      | exact LeO.none _
      | refine LeO.ite ?_ ?_
      | refine LeO.bind ?_ (fun _ => ?_)
    · intro y0 y1 y2 y3
      unfold laws_FnSlots.j4
      repeat' first
      | (with_reducible exact ih0 _ _ _)
      | (with_reducible exact ih1 _ _ _ _ _)
      | (with_reducible exact ih2 _ _)
      | (with_reducible exact ih3 _ _ _ _ _)
      | (with_reducible exact ih4 _ _ _ _)
      | (with_reducible exact ih5 _ _ _ _)
      | (with_reducible exact ih6 _ _ _ _)
      | (with_reducible exact ih7 _ _ _ _ _)
      | (with_reducible exact ih8 _ _ _ _)
      | (with_reducible exact ih9 _ _ _ _ _)
      | (with_reducible exact ih10 _ _ _ _)
      | (with_reducible exact ih11 _ _ _ _ _)
      | (with_reducible exact ih12 _ _ _ _ _ _)
      | (with_reducible exact spec_DrawSlotDraw.mono _ _)
      | (with_reducible exact spec_DrawTimeoutOf.mono _ _)
      | (with_reducible exact LeO.refl _)
      | (with_reducible exact LeO.none _)
      | (with_reducible refine LeO.ite ?_ ?_)
      | (with_reducible refine LeO.bind ?_ (fun _ => ?_))
      | exact ih0 _ _ _
      | exact ih1 _ _ _ _ _
      | exact ih2 _ _
      | exact ih3 _ _ _ _ _
      | exact ih4 _ _ _ _
      | exact ih5 _ _ _ _
      | exact ih6 _ _ _ _
      | exact ih7 _ _ _ _ _
      | exact ih8 _ _ _ _
      | exact ih9 _ _ _ _ _
      | exact ih10 _ _ _ _
      | exact ih11 _ _ _ _ _
      | exact ih12 _ _ _ _ _ _
      | exact spec_DrawSlotDraw.mono _ _
      | exact spec_DrawTimeoutOf.mono _ _
      | exact LeO.none _
      | refine LeO.ite ?_ ?_
      | refine LeO.bind ?_ (fun _ => ?_)
    · intro y0 y1 y2 y3
      unfold laws_FnSlots.j5
      repeat' first
      | (with_reducible exact ih0 _ _ _)
      | (with_reducible exact ih1 _ _ _ _ _)
      | (with_reducible exact ih2 _ _)
      | (with_reducible exact ih3 _ _ _ _ _)
      | (with_reducible exact ih4 _ _ _ _)
      | (with_reducible exact ih5 _ _ _ _)
      | (with_reducible exact ih6 _ _ _ _)
      | (with_reducible exact ih7 _ _ _ _ _)
      | (with_reducible exact ih8 _ _ _ _)
      | (with_reducible exact ih9 _ _ _ _ _)
      | (with_reducible exact ih10 _ _ _ _)
      | (with_reducible exact ih11 _ _ _ _ _)
      | (with_reducible exact ih12 _ _ _ _ _ _)
      | (with_reducible exact spec_DrawSlotDraw.mono _ _)
      | (with_reducible exact spec_DrawTimeoutOf.mono _ _)
      | (with_reducible exact LeO.refl _)
      | (with_reducible exact LeO.none _)
      | (with_reducible refine LeO.ite ?_ ?_)
      | (with_reducible refine LeO.bind ?_ (fun _ => ?_))
      | exact ih0 _ _ _
      | exact ih1 _ _ _ _ _
      | exact ih2 _ _
      | exact ih3 _ _ _ _ _
      | exact ih4 _ _ _ _
      | exact ih5 _ _ _ _
      | exact ih6 _ _ _ _
      | exact ih7 _ _ _ _ _
      | exact ih8 _ _ _ _
      | exact ih9 _ _ _ _ _
      | exact ih10 _ _ _ _
      | exact ih11 _ _ _ _ _
      | exact ih12 _ _ _ _ _ _
      | exact spec_DrawSlotDraw.mono _ _
      | exact spec_DrawTimeoutOf.mono _ _
      | exact LeO.none _
      | refine LeO.ite ?_ ?_
      | refine LeO.bind ?_ (fun _ => ?_)
    · intro y0 y1 y2 y3
      unfold laws_FnSlots.j6
      repeat' first
      | (with_reducible exact ih0 _ _ _)
      | (with_reducible exact ih1 _ _ _ _ _)
      | (with_reducible exact ih2 _ _)
      | (with_reducible exact ih3 _ _ _ _ _)
      | (with_reducible exact ih4 _ _ _ _)
      | (with_reducible exact ih5 _ _ _ _)
      | (with_reducible exact ih6 _ _ _ _)
      | (with_reducible exact ih7 _ _ _ _ _)
      | (with_reducible exact ih8 _ _ _ _)
      | (with_reducible exact ih9 _ _ _ _ _)
      | (with_reducible exact ih10 _ _ _ _)
      | (with_reducible exact ih11 _ _ _ _ _)
      | (with_reducible exact ih12 _ _ _ _ _ _)
      | (with_reducible exact spec_DrawSlotDraw.mono _ _)
      | (with_reducible exact spec_DrawTimeoutOf.mono _ _)
      | (with_reducible exact LeO.refl _)
      | (with_reducible exact LeO.none _)
      | (with_reducible refine LeO.ite ?_ ?_)
      | (with_reducible refine LeO.bind ?_ (fun _ => ?_))
      | exact ih0 _ _ _
      | exact ih1 _ _ _ _ _
      | exact ih2 _ _
      | exact ih3 _ _ _ _ _
      | exact ih4 _ _ _ _
      | exact ih5 _ _ _ _
      | exact ih6 _ _ _ _
      | exact ih7 _ _ _ _ _
      | exact ih8 _ _ _ _
      | exact ih9 _ _ _ _ _
      | exact ih10 _ _ _ _
      | exact ih11 _ _ _ _ _
      | exact ih12 _ _ _ _ _ _
      | exact spec_DrawSlotDraw.mono _ _
      | exact spec_DrawTimeoutOf.mono _ _
      | exact LeO.none _
      | refine LeO.ite ?_ ?_
      | refine LeO.bind ?_ (fun _ => ?_)
    · intro y0 y1 y2 y3 y4
      unfold laws_FnSlots.j7
      repeat' first
      | (with_reducible exact ih0 _ _ _)
      | (with_reducible exact ih1 _ _ _ _ _)
      | (with_reducible exact ih2 _ _)
      | (with_reducible exact ih3 _ _ _ _ _)
      | (with_reducible exact ih4 _ _ _ _)
      | (with_reducible exact ih5 _ _ _ _)
      | (with_reducible exact ih6 _ _ _ _)
      | (with_reducible exact ih7 _ _ _ _ _)
      | (with_reducible exact ih8 _ _ _ _)
      | (with_reducible exact ih9 _ _ _ _ _)
      | (with_reducible exact ih10 _ _ _ _)
      | (with_reducible exact ih11 _ _ _ _ _)
      | (with_reducible exact ih12 _ _ _ _ _ _)
      | (with_reducible exact spec_DrawSlotDraw.mono _ _)
      | (with_reducible exact spec_DrawTimeoutOf.mono _ _)
      | (with_reducible exact LeO.refl _)
      | (with_reducible exact LeO.none _)
      | (with_reducible refine LeO.ite ?_ ?_)
      | (with_reducible refine LeO.bind ?_ (fun _ => ?_))
      | exact ih0 _ _ _
      | exact ih1 _ _ _ _ _
      | exact ih2 _ _
      | exact ih3 _ _ _ _ _
      | exact ih4 _ _ _ _
      | exact ih5 _ _ _ _
      | exact ih6 _ _ _ _
      | exact ih7 _ _ _ _ _
      | exact ih8 _ _ _ _
      | exact ih9 _ _ _ _ _
      | exact ih10 _ _ _ _
      | exact ih11 _ _ _ _ _
      | exact ih12 _ _ _ _ _ _
      | exact spec_DrawSlotDraw.mono _ _
      | exact spec_DrawTimeoutOf.mono _ _
      | exact LeO.none _
      | refine LeO.ite ?_ ?_
      | refine LeO.bind ?_ (fun _ => ?_)
    · intro y0 y1 y2 y3
      unfold laws_FnSlots.j8
      repeat' first
      | (with_reducible exact ih0 _ _ _)
      | (with_reducible exact ih1 _ _ _ _ _)
      | (with_reducible exact ih2 _ _)
      | (with_reducible exact ih3 _ _ _ _ _)
      | (with_reducible exact ih4 _ _ _ _)
      | (with_reducible exact ih5 _ _ _ _)
      | (with_reducible exact ih6 _ _ _ _)
      | (with_reducible exact ih7 _ _ _ _ _)
      | (with_reducible exact ih8 _ _ _ _)
      | (with_reducible exact ih9 _ _ _ _ _)
      | (with_reducible exact ih10 _ _ _ _)
      | (with_reducible exact ih11 _ _ _ _ _)
      | (with_reducible exact ih12 _ _ _ _ _ _)
      | (with_reducible exact spec_DrawSlotDraw.mono _ _)
      | (with_reducible exact spec_DrawTimeoutOf.mono _ _)
      | (with_reducible exact LeO.refl _)
      | (with_reducible exact LeO.none _)
      | (with_reducible refine LeO.ite ?_ ?_)
      | (with_reducible refine LeO.bind ?_ (fun _ => ?_))
      | exact ih0 _ _ _
      | exact ih1 _ _ _ _ _
      | exact ih2 _ _
      | exact ih3 _ _ _ _ _
      | exact ih4 _ _ _ _
      | exact ih5 _ _ _ _
      | exact ih6 _ _ _ _
      | exact ih7 _ _ _ _ _
      | exact ih8 _ _ _ _
      | exact ih9 _ _ _ _ _
      | exact ih10 _ _ _ _
      | exact ih11 _ _ _ _ _
      | exact ih12 _ _ _ _ _ _
      | exact spec_DrawSlotDraw.mono _ _
      | exact spec_DrawTimeoutOf.mono _ _
      | exact LeO.none _
      | refine LeO.ite ?_ ?_
      | refine LeO.bind ?_ (fun _ => ?_)
    · intro y0 y1 y2 y3 y4
      unfold laws_FnSlots.j9
      repeat' first
      | (with_reducible exact ih0 _ _ _)
      | (with_reducible exact ih1 _ _ _ _ _)
      | (with_reducible exact ih2 _ _)
      | (with_reducible exact ih3 _ _ _ _ _)
      | (with_reducible exact ih4 _ _ _ _)
      | (with_reducible exact ih5 _ _ _ _)
      | (with_reducible exact ih6 _ _ _ _)
      | (with_reducible exact ih7 _ _ _ _ _)
      | (with_reducible exact ih8 _ _ _ _)
      | (with_reducible exact ih9 _ _ _ _ _)
      | (with_reducible exact ih10 _ _ _ _)
      | (with_reducible exact ih11 _ _ _ _ _)
      | (with_reducible exact ih12 _ _ _ _ _ _)
      | (with_reducible exact spec_DrawSlotDraw.mono _ _)
      | (with_reducible exact spec_DrawTimeoutOf.mono _ _)
      | (with_reducible exact LeO.refl _)
      | (with_reducible exact LeO.none _)
      | (with_reducible refine LeO.ite ?_ ?_)
      | (with_reducible refine LeO.bind ?_ (fun _ => ?_))
      | exact ih0 _ _ _
      | exact ih1 _ _ _ _ _
      | exact ih2 _ _
      | exact ih3 _ _ _ _ _
      | exact ih4 _ _ _ _
      | exact ih5 _ _ _ _
      | exact ih6 _ _ _ _
      | exact ih7 _ _ _ _ _
      | exact ih8 _ _ _ _
      | exact ih9 _ _ _ _ _
      | exact ih10 _ _ _ _
      | exact ih11 _ _ _ _ _
      | exact ih12 _ _ _ _ _ _
      | exact spec_DrawSlotDraw.mono _ _
      | exact spec_DrawTimeoutOf.mono _ _
      | exact LeO.none _
      | refine LeO.ite ?_ ?_
      | refine LeO.bind ?_ (fun _ => ?_)
    · intro y0 y1 y2 y3
      unfold laws_FnSlots.j10
      repeat' first
      | (with_reducible exact ih0 _ _ _)
      | (with_reducible exact ih1 _ _ _ _ _)
      | (with_reducible exact ih2 _ _)
      | (with_reducible exact ih3 _ _ _ _ _)
      | (with_reducible exact ih4 _ _ _ _)
      | (with_reducible exact ih5 _ _ _ _)
      | (with_reducible exact ih6 _ _ _ _)
      | (with_reducible exact ih7 _ _ _ _ _)
      | (with_reducible exact ih8 _ _ _ _)
      | (with_reducible exact ih9 _ _ _ _ _)
      | (with_reducible exact ih10 _ _ _ _)
      | (with_reducible exact ih11 _ _ _ _ _)
      | (with_reducible exact ih12 _ _ _ _ _ _)
      | (with_reducible exact spec_DrawSlotDraw.mono _ _)
      | (with_reducible exact spec_DrawTimeoutOf.mono _ _)
      | (with_reducible exact LeO.refl _)
      | (with_reducible exact LeO.none _)
      | (with_reducible refine LeO.ite ?_ ?_)
      | (with_reducible refine LeO.bind ?_ (fun _ => ?_))
      | exact ih0 _ _ _
      | exact ih1 _ _ _ _ _
      | exact ih2 _ _
      | exact ih3 _ _ _ _ _
      | exact ih4 _ _ _ _
      | exact ih5 _ _ _ _
      | exact ih6 _ _ _ _
      | exact ih7 _ _ _ _ _
      | exact ih8 _ _ _ _
      | exact ih9 _ _ _ _ _
      | exact ih10 _ _ _ _
      | exact ih11 _ _ _ _ _
      | exact ih12 _ _ _ _ _ _
      | exact spec_DrawSlotDraw.mono _ _
      | exact spec_DrawTimeoutOf.mono _ _
      | exact LeO.none _
      | refine LeO.ite ?_ ?_
      | refine LeO.bind ?_ (fun _ => ?_)
    · intro y0 y1 y2 y3 y4
      unfold laws_FnSlots.l0
      repeat' first
      | (with_reducible exact ih0 _ _ _)
      | (with_reducible exact ih1 _ _ _ _ _)
      | (with_reducible exact ih2 _ _)
      | (with_reducible exact ih3 _ _ _ _ _)
      | (with_reducible exact ih4 _ _ _ _)
      | (with_reducible exact ih5 _ _ _ _)
      | (with_reducible exact ih6 _ _ _ _)
      | (with_reducible exact ih7 _ _ _ _ _)
      | (with_reducible exact ih8 _ _ _ _)
      | (with_reducible exact ih9 _ _ _ _ _)
      | (with_reducible exact ih10 _ _ _ _)
      | (with_reducible exact ih11 _ _ _ _ _)
      | (with_reducible exact ih12 _ _ _ _ _ _)
      | (with_reducible exact spec_DrawSlotDraw.mono _ _)
      | (with_reducible exact spec_DrawTimeoutOf.mono _ _)
      | (with_reducible exact LeO.refl _)
      | (with_reducible exact LeO.none _)
      | (with_reducible refine LeO.ite ?_ ?_)
      | (with_reducible refine LeO.bind ?_ (fun _ => ?_))
      | exact ih0 _ _ _
      | exact ih1 _ _ _ _ _
      | exact ih2 _ _
      | exact ih3 _ _ _ _ _
      | exact ih4 _ _ _ _
      | exact ih5 _ _ _ _
      | exact ih6 _ _ _ _
      | exact ih7 _ _ _ _ _
      | exact ih8 _ _ _ _
      | exact ih9 _ _ _ _ _
      | exact ih10 _ _ _ _
      | exact ih11 _ _ _ _ _
      | exact ih12 _ _ _ _ _ _
      | exact spec_DrawSlotDraw.mono _ _
      | exact spec_DrawTimeoutOf.mono _ _
      | exact LeO.none _
      | refine LeO.ite ?_ ?_
      | refine LeO.bind ?_ (fun _ => ?_)
    · intro y0 y1 y2 y3 y4 y5
      unfold laws_FnSlots.l1
      repeat' first
      | (with_reducible exact ih0 _ _ _)
      | (with_reducible exact ih1 _ _ _ _ _)
      | (with_reducible exact ih2 _ _)
      | (with_reducible exact ih3 _ _ _ _ _)
      | (with_reducible exact ih4 _ _ _ _)
      | (with_reducible exact ih5 _ _ _ _)
      | (with_reducible exact ih6 _ _ _ _)
      | (with_reducible exact ih7 _ _ _ _ _)
      | (with_reducible exact ih8 _ _ _ _)
      | (with_reducible exact ih9 _ _ _ _ _)
      | (with_reducible exact ih10 _ _ _ _)
      | (with_reducible exact ih11 _ _ _ _ _)
      | (with_reducible exact ih12 _ _ _ _ _ _)
      | (with_reducible exact spec_DrawSlotDraw.mono _ _)
      | (with_reducible exact spec_DrawTimeoutOf.mono _ _)
      | (with_reducible exact LeO.refl _)
      | (with_reducible exact LeO.none _)
      | (with_reducible refine LeO.ite ?_ ?_)
      | (with_reducible refine LeO.bind ?_ (fun _ => ?_))
      | exact ih0 _ _ _
      | exact ih1 _ _ _ _ _
      | exact ih2 _ _
      | exact ih3 _ _ _ _ _
      | exact ih4 _ _ _ _
      | exact ih5 _ _ _ _
      | exact ih6 _ _ _ _
      | exact ih7 _ _ _ _ _
      | exact ih8 _ _ _ _
      | exact ih9 _ _ _ _ _
      | exact ih10 _ _ _ _
      | exact ih11 _ _ _ _ _
      | exact ih12 _ _ _ _ _ _
      | exact spec_DrawSlotDraw.mono _ _
      | exact spec_DrawTimeoutOf.mono _ _
      | exact LeO.none _
      | refine LeO.ite ?_ ?_
      | refine LeO.bind ?_ (fun _ => ?_)
theorem laws_FnSlots.mono : ∀ a0 a1 k, LeO (laws_FnSlots.f k a0 a1) (laws_FnSlots.f (k + 1) a0 a1) := by
  intro a0 a1 k
  obtain ⟨ih0, ih1, ih2, ih3, ih4, ih5, ih6, ih7, ih8, ih9, ih10, ih11, ih12⟩ := laws_FnSlots.mono_l k
  unfold laws_FnSlots.f
  repeat' first
      | (with_reducible exact ih0 _ _ _)
      | (with_reducible exact ih1 _ _ _ _ _)
      | (with_reducible exact ih2 _ _)
      | (with_reducible exact ih3 _ _ _ _ _)
      | (with_reducible exact ih4 _ _ _ _)
      | (with_reducible exact ih5 _ _ _ _)
      | (with_reducible exact ih6 _ _ _ _)
      | (with_reducible exact ih7 _ _ _ _ _)
      | (with_reducible exact ih8 _ _ _ _)
      | (with_reducible exact ih9 _ _ _ _ _)
      | (with_reducible exact ih10 _ _ _ _)
      | (with_reducible exact ih11 _ _ _ _ _)
      | (with_reducible exact ih12 _ _ _ _ _ _)
      | (with_reducible exact spec_DrawSlotDraw.mono _ _)
      | (with_reducible exact spec_DrawTimeoutOf.mono _ _)
      | (with_reducible exact LeO.refl _)
      | (with_reducible exact LeO.none _)
      | (with_reducible refine LeO.ite ?_ ?_)
      | (with_reducible refine LeO.bind ?_ (fun _ => ?_))
      | exact ih0 _ _ _
      | exact ih1 _ _ _ _ _
      | exact ih2 _ _
      | exact ih3 _ _ _ _ _
      | exact ih4 _ _ _ _
      | exact ih5 _ _ _ _
      | exact ih6 _ _ _ _
      | exact ih7 _ _ _ _ _
      | exact ih8 _ _ _ _
      | exact ih9 _ _ _ _ _
      | exact ih10 _ _ _ _
      | exact ih11 _ _ _ _ _
      | exact ih12 _ _ _ _ _ _
      | exact spec_DrawSlotDraw.mono _ _
      | exact spec_DrawTimeoutOf.mono _ _
      | exact LeO.none _
      | refine LeO.ite ?_ ?_
      | refine LeO.bind ?_ (fun _ => ?_)
set_option maxHeartbeats 8000000 in
set_option maxRecDepth 100000 in
theorem laws_FnSlots.calls (k : Nat) (A0 : Option Addr) (c0 : Nat) (l0 : List Int) (A1 : Option Addr) (c1 : Nat) (l1 : List Int) (r : Bool) (w : World) (hr0 : Kd.C (Kd.int .u8) w A0 l0.length l0) (hc0 : l0.length ≤ c0) (hr1 : Kd.C (Kd.int .u8) w A1 l1.length l1) (hc1 : l1.length ≤ c1) (h : laws_FnSlots.f k l0 l1 = some r) :
    Calls Try.prog 8 #[.slice A0 l0.length c0, .slice A1 l1.length c1] w fun e w' => e = .returned (.bool r) ∧ Below w.heap.size w w' := by
  have HR0 := Aside0.mk hr0
  have HC0 := Aside0.mk hc0
  clear hr0 hc0
  have HR1 := Aside0.mk hr1
  have HC1 := Aside0.mk hc1
  clear hr1 hc1
  have HB := Aside0.mk (Below.refl w.heap.size w)
  have H : (if (l0.length : Int) > 1048576 then (laws_FnSlots.j0 k l0 l1 true) else (laws_FnSlots.j0 k l0 l1 (decide ((l1.length : Int) > 1048576)))) = some r := h
  clear h
  have HC3 := Aside0.mk H
  clear H
  go_enter Try.func8, Try.ntmps8
  go_upto_region 1 with (fail)
  go_cut [27] (fun v27 wc => ∃ (kq : Nat) (x27_2 : Bool), v27 = .bool x27_2 ∧ Aside0 (laws_FnSlots.j0 kq l0 l1 x27_2 = some r) ∧ Aside0 (kq ≤ k) ∧ Aside0 (Below w.heap.size w wc))
  case first =>
    have H := HC3.out
    clear HC3
    by_cases c4 : (l0.length : Int) > 1048576
    · rw [if_pos c4] at H
      have c4b0 : decide (1048576 < (l0.length : Int)) = true := decide_eq_true c4
      have c4b1 : decide (1048576 < l0.length) = true := decide_eq_true (by omega)
      clear c4
      (first | rw [c4b0] | (simp only [i64_w, i32_w]; rw [c4b0]) | skip)
      have H' := Aside0.mk H
      clear H
      go_wp2
      go_meet
      case rel => exact ⟨_, (true), (by first | rfl | (simp; done) | (simp [*]; done)), H', ⟨by first | omega | exact Nat.le_refl _⟩, ⟨by repeat (first | (with_reducible first | exact HB.out | apply below_alloc | apply pw_below_drewN | apply below_drew1) | exact HB.out)⟩⟩
    · rw [if_neg c4] at H
      have c4b0 : decide (1048576 < (l0.length : Int)) = false := decide_eq_false c4
      have c4b1 : decide (1048576 < l0.length) = false := decide_eq_false (by omega)
      clear c4
      (first | rw [c4b0] | (simp only [i64_w, i32_w]; rw [c4b0]) | skip)
      have H' := Aside0.mk H
      clear H
      go_wp2
      go_meet
      case rel => exact ⟨_, (decide ((l1.length : Int) > 1048576)), (by first | rfl | (simp; done) | (simp [*]; done)), H', ⟨by first | omega | exact Nat.le_refl _⟩, ⟨by repeat (first | (with_reducible first | exact HB.out | apply below_alloc | apply pw_below_drewN | apply below_drew1) | exact HB.out)⟩⟩
  case rest =>
    clear HC3
    try clear c1
    try clear p2
    try clear c4
    try clear c4b0
    try clear c4b1
    obtain ⟨kq, x27_2, rfl, HA, HJ2, HB⟩ := hcut
    cases kq with
    | zero => exact absurd HA.out (by simp [laws_FnSlots.j0])
    | succ kj2 =>
      have H := HA.out
      clear HA
      simp only [laws_FnSlots.j0] at H
      by_cases c5 : x27_2 = true
      · subst c5
        have H1 : (some true) = some r := by rw [if_pos rfl] at H; exact H
        clear H
        have H := H1
        clear H1
        obtain rfl := Option.some.inj H
        go_wp2
        go_ret
        exact ⟨by first | rfl | (simp [errW_none, errW_some] <;> rfl) | (simp [*, errW_none, errW_some] <;> rfl), by repeat (first | (with_reducible first | exact HB.out | apply below_alloc | apply pw_below_drewN | apply below_drew1) | exact HB.out)⟩
      · replace c5 := Bool.eq_false_iff.mpr c5
        subst c5
        have H1 : ((spec_DrawTimeoutOf.f kj2 l0).bind fun bt243 => (if bt243.1 ≥ 1 then (laws_FnSlots.j1 kj2 l0 l1 bt243.1 bt243.2 (decide (bt243.1 ≤ 1000))) else (laws_FnSlots.j1 kj2 l0 l1 bt243.1 bt243.2 false))) = some r := by rw [if_neg (show ¬ (false = true) by decide)] at H; exact H
        clear H
        have H := H1
        clear H1
        replace H := Option.bind_eq_some_iff.mp H
        obtain ⟨⟨t243, t244⟩, A60, H⟩ := H
        replace H : (if t243 ≥ 1 then (laws_FnSlots.j1 kj2 l0 l1 t243 t244 (decide (t243 ≤ 1000))) else (laws_FnSlots.j1 kj2 l0 l1 t243 t244 false)) = some r := H
        have A6 := Aside0.mk A60
        clear A60
        have HC7 := Aside0.mk H
        clear H
        go_upto_region 4 with (first | ((with_reducible refine gate_callee (f := 23) rfl ?_); refine goesL_ (some 30) rfl rfl Try.func23 (by kernel_rfl) rfl #[.slice A0 l0.length c0] rfl (by (try simp only [List.map_toArray, List.map_cons, List.map_nil]); first | done | rfl | (simp only [List.length_drop, List.length_take]; rfl)) ?_; (with_reducible refine (spec_DrawTimeoutOf.calls kj2 _ _ l0 t243 t244 _ ?side1 ?side2 A6.out).mono ?_); (case side1 => repeat (first | exact (Kd.C_below HR0.out HB.out) | (with_reducible refine Kd.C_alloc ?_ _) | (with_reducible refine Kd.C_drewN ?_ _) | (with_reducible refine Kd.C_drew ?_))); (case side2 => exact HC0.out); rintro e w8 ⟨rfl, hb⟩; refine ⟨_, rfl, ?_⟩; have n0_ := Aside0.mk (below_step (by repeat (first | (with_reducible first | exact HB.out | apply below_alloc | apply pw_below_drewN | apply below_drew1) | exact HB.out)) hb); clear HB; have HB := n0_; clear n0_; (try clear hb); (try clear hb2); (try clear hk); (try clear hi)))
        (try simp only [Act.put, List.setIfInBounds_toArray, List.set_cons_zero, List.set_cons_succ])
        go_cut [38] (fun v38 wc => ∃ (kq : Nat) (x38_6 : Bool), v38 = .bool x38_6 ∧ Aside0 (laws_FnSlots.j1 kq l0 l1 t243 t244 x38_6 = some r) ∧ Aside0 (kq ≤ kj2) ∧ Aside0 (Below w.heap.size w wc))
        case first =>
          have H := HC7.out
          clear HC7
          by_cases c9 : t243 ≥ 1
          · rw [if_pos c9] at H
            have c9b0 : decide (1 ≤ t243) = true := decide_eq_true c9
            clear c9
            (first | rw [c9b0] | (simp only [i64_w, i32_w]; rw [c9b0]) | skip)
            have H' := Aside0.mk H
            clear H
            go_wp2
            go_meet
            case rel => exact ⟨_, (decide (t243 ≤ 1000)), (by first | rfl | (simp; done) | (simp [*]; done)), H', ⟨by have := HJ2.out; first | omega | exact Nat.le_refl _⟩, ⟨by repeat (first | (with_reducible first | exact HB.out | apply below_alloc | apply pw_below_drewN | apply below_drew1) | exact HB.out)⟩⟩
          · rw [if_neg c9] at H
            have c9b0 : decide (1 ≤ t243) = false := decide_eq_false c9
            clear c9
            (first | rw [c9b0] | (simp only [i64_w, i32_w]; rw [c9b0]) | skip)
            have H' := Aside0.mk H
            clear H
            go_wp2
            go_meet
            case rel => exact ⟨_, (false), (by first | rfl | (simp; done) | (simp [*]; done)), H', ⟨by have := HJ2.out; first | omega | exact Nat.le_refl _⟩, ⟨by repeat (first | (with_reducible first | exact HB.out | apply below_alloc | apply pw_below_drewN | apply below_drew1) | exact HB.out)⟩⟩
        case rest =>
          clear HC7
          try clear c1
          try clear c2
          try clear p2
          try clear c4
          try clear c4b0
          try clear c4b1
          try clear c5
          try clear c8
          try clear c9
          try clear c9b0
          try clear p2
          obtain ⟨kq, x38_6, rfl, HA, HJ6, HB⟩ := hcut
          cases kq with
          | zero => exact absurd HA.out (by simp [laws_FnSlots.j1])
          | succ kj6 =>
            have H := HA.out
            clear HA
            simp only [laws_FnSlots.j1] at H
            have HC10 := Aside0.mk H
            clear H
            go_upto_if 38 with (fail)
            go_cut [] (fun wc => ∃ (kq : Nat), Aside0 (laws_FnSlots.j2 kq l0 l1 = some r) ∧ Aside0 (kq ≤ kj6) ∧ Aside0 (Below w.heap.size w wc))
            case first =>
              have H := HC10.out
              clear HC10
              by_cases c11 : x38_6 = true
              · subst c11
                have H1 : ((impl_TimeoutOf.f t243 t244).bind fun t245 => (if t245 < t243 then (none) else (if t245 > (wrap64 ((wrap64 (2 * t243)) - 1)) then (none) else (laws_FnSlots.j2 kj6 l0 l1)))) = some r := by rw [if_pos rfl] at H; exact H
                clear H
                have H := H1
                clear H1
                replace H := Option.bind_eq_some_iff.mp H
                obtain ⟨t245, A120, H⟩ := H
                replace H : (if t245 < t243 then (none) else (if t245 > (wrap64 ((wrap64 (2 * t243)) - 1)) then (none) else (laws_FnSlots.j2 kj6 l0 l1))) = some r := H
                have A12 := Aside0.mk A120
                clear A120
                by_cases c13 : t245 < t243
                · rw [if_pos c13] at H
                  exact absurd H (by simp)
                · rw [if_neg c13] at H
                  have c13b0 : decide (t245 < t243) = false := decide_eq_false c13
                  clear c13
                  (first | rw [c13b0] | (simp only [i64_w, i32_w]; rw [c13b0]) | skip)
                  by_cases c14 : t245 > (wrap64 ((wrap64 (2 * t243)) - 1))
                  · rw [if_pos c14] at H
                    exact absurd H (by simp)
                  · rw [if_neg c14] at H
                    have c14b0 : decide ((wrap64 ((wrap64 (2 * t243)) - 1)) < t245) = false := decide_eq_false c14
                    clear c14
                    have H' := Aside0.mk H
                    clear H
                    go_wp2_with (first | ((with_reducible refine gate_callee (f := 15) rfl ?_); refine goesL_ (some 41) rfl rfl Try.func15 (by kernel_rfl) rfl #[.int .i64 t243, .int .i64 t244] rfl (by (try simp only [List.map_toArray, List.map_cons, List.map_nil]); first | done | rfl | (simp only [List.length_drop, List.length_take]; rfl)) ?_; (with_reducible refine (impl_TimeoutOf.calls t243 t244 t245 _ A12.out).mono ?_); rintro e w' ⟨rfl, ⟨nd, rfl⟩⟩; refine ⟨_, rfl, ?_⟩))
                    go_meet
                    case rel => exact ⟨_, H', ⟨by have := HJ2.out; have := HJ6.out; first | omega | exact Nat.le_refl _⟩, ⟨by repeat (first | (with_reducible first | exact HB.out | apply below_alloc | apply pw_below_drewN | apply below_drew1) | exact HB.out)⟩⟩
              · replace c11 := Bool.eq_false_iff.mpr c11
                subst c11
                have H1 : (laws_FnSlots.j2 kj6 l0 l1) = some r := by rw [if_neg (show ¬ (false = true) by decide)] at H; exact H
                clear H
                have H := H1
                clear H1
                have H' := Aside0.mk H
                clear H
                go_wp2
                go_meet
                case rel => exact ⟨_, H', ⟨by have := HJ2.out; have := HJ6.out; first | omega | exact Nat.le_refl _⟩, ⟨by repeat (first | (with_reducible first | exact HB.out | apply below_alloc | apply pw_below_drewN | apply below_drew1) | exact HB.out)⟩⟩
            case rest =>
              clear HC10
              try clear c1
              try clear c2
              try clear p2
              try clear c4
              try clear c4b0
              try clear c4b1
              try clear c5
              try clear p6
              try clear c8
              try clear c9
              try clear c9b0
              try clear c11
              try clear c13
              try clear c13b0
              try clear c14
              try clear c14b0
              try clear p2
              obtain ⟨kq, HA, HJ9, HB⟩ := hcut
              cases kq with
              | zero => exact absurd HA.out (by simp [laws_FnSlots.j2])
              | succ kj9 =>
                have H := HA.out
                clear HA
                simp only [laws_FnSlots.j2] at H
                replace H := Option.bind_eq_some_iff.mp H
                obtain ⟨⟨t246, t247, t248, t249⟩, A150, H⟩ := H
                replace H : ((spec_DrawSlotDraw.f kj9 l1).bind fun bt250 => (if t247 = 3 then (laws_FnSlots.j3 kj9 t246 t247 t249 bt250.2.2.2 false) else (if t247 = 5 then (laws_FnSlots.j3 kj9 t246 t247 t249 bt250.2.2.2 false) else (laws_FnSlots.j3 kj9 t246 t247 t249 bt250.2.2.2 (t247 != 7))))) = some r := H
                have A15 := Aside0.mk A150
                clear A150
                replace H := Option.bind_eq_some_iff.mp H
                obtain ⟨⟨t250, t251, t252, t253⟩, A160, H⟩ := H
                replace H : (if t247 = 3 then (laws_FnSlots.j3 kj9 t246 t247 t249 t253 false) else (if t247 = 5 then (laws_FnSlots.j3 kj9 t246 t247 t249 t253 false) else (laws_FnSlots.j3 kj9 t246 t247 t249 t253 (t247 != 7)))) = some r := H
                have A16 := Aside0.mk A160
                clear A160
                have HC17 := Aside0.mk H
                clear H
                go_upto_region 10 with (first | ((with_reducible refine gate_callee (f := 24) rfl ?_); refine goesL_ (some 54) rfl rfl Try.func24 (by kernel_rfl) rfl #[.slice A0 l0.length c0] rfl (by (try simp only [List.map_toArray, List.map_cons, List.map_nil]); first | done | rfl | (simp only [List.length_drop, List.length_take]; rfl)) ?_; (with_reducible refine (spec_DrawSlotDraw.calls kj9 _ _ l0 t246 t247 t248 t249 _ ?side1 ?side2 A15.out).mono ?_); (case side1 => repeat (first | exact (Kd.C_below HR0.out HB.out) | (with_reducible refine Kd.C_alloc ?_ _) | (with_reducible refine Kd.C_drewN ?_ _) | (with_reducible refine Kd.C_drew ?_))); (case side2 => exact HC0.out); rintro e w18 ⟨rfl, hb⟩; refine ⟨_, rfl, ?_⟩; have n0_ := Aside0.mk (below_step (by repeat (first | (with_reducible first | exact HB.out | apply below_alloc | apply pw_below_drewN | apply below_drew1) | exact HB.out)) hb); clear HB; have HB := n0_; clear n0_; (try clear hb); (try clear hb2); (try clear hk); (try clear hi)) | ((with_reducible refine gate_callee (f := 24) rfl ?_); refine goesL_ (some 61) rfl rfl Try.func24 (by kernel_rfl) rfl #[.slice A1 l1.length c1] rfl (by (try simp only [List.map_toArray, List.map_cons, List.map_nil]); first | done | rfl | (simp only [List.length_drop, List.length_take]; rfl)) ?_; (with_reducible refine (spec_DrawSlotDraw.calls kj9 _ _ l1 t250 t251 t252 t253 _ ?side1 ?side2 A16.out).mono ?_); (case side1 => repeat (first | exact (Kd.C_below HR1.out HB.out) | (with_reducible refine Kd.C_alloc ?_ _) | (with_reducible refine Kd.C_drewN ?_ _) | (with_reducible refine Kd.C_drew ?_))); (case side2 => exact HC1.out); rintro e w19 ⟨rfl, hb⟩; refine ⟨_, rfl, ?_⟩; have n0_ := Aside0.mk (below_step (by repeat (first | (with_reducible first | exact HB.out | apply below_alloc | apply pw_below_drewN | apply below_drew1) | exact HB.out)) hb); clear HB; have HB := n0_; clear n0_; (try clear hb); (try clear hb2); (try clear hk); (try clear hi)))
                (try simp only [Act.put, List.setIfInBounds_toArray, List.set_cons_zero, List.set_cons_succ])
                go_cut [75] (fun v75 wc => ∃ (kq : Nat) (x75_16 : Bool), v75 = .bool x75_16 ∧ Aside0 (laws_FnSlots.j3 kq t246 t247 t249 t253 x75_16 = some r) ∧ Aside0 (kq ≤ kj9) ∧ Aside0 (Below w.heap.size w wc))
                case first =>
                  have H := HC17.out
                  clear HC17
                  by_cases c20 : t247 = 3
                  · rw [if_pos c20] at H
                    have c20b0 : (t247 == 3) = true := beq_iff_eq.mpr c20
                    have c20b1 : (t247 != 3) = false := bne_eq_false_iff_eq.mpr c20
                    clear c20
                    (first | rw [c20b0] | (simp only [i64_w, i32_w]; rw [c20b0]) | skip)
                    have H' := Aside0.mk H
                    clear H
                    go_wp2
                    go_meet
                    case rel => exact ⟨_, (false), (by first | rfl | (simp; done) | (simp [*]; done)), H', ⟨by have := HJ2.out; have := HJ6.out; have := HJ9.out; first | omega | exact Nat.le_refl _⟩, ⟨by repeat (first | (with_reducible first | exact HB.out | apply below_alloc | apply pw_below_drewN | apply below_drew1) | exact HB.out)⟩⟩
                  · rw [if_neg c20] at H
                    have c20b0 : (t247 == 3) = false := beq_eq_false_iff_ne.mpr c20
                    have c20b1 : (t247 != 3) = true := bne_iff_ne.mpr c20
                    (first | rw [c20b0] | (simp only [i64_w, i32_w]; rw [c20b0]) | skip)
                    by_cases c21 : t247 = 5
                    · rw [if_pos c21] at H
                      have c21b0 : (t247 == 5) = true := beq_iff_eq.mpr c21
                      have c21b1 : (t247 != 5) = false := bne_eq_false_iff_eq.mpr c21
                      clear c21
                      have H' := Aside0.mk H
                      clear H
                      go_wp2
                      go_meet
                      case rel => exact ⟨_, (false), (by first | rfl | (simp; done) | (simp [*]; done)), H', ⟨by have := HJ2.out; have := HJ6.out; have := HJ9.out; first | omega | exact Nat.le_refl _⟩, ⟨by repeat (first | (with_reducible first | exact HB.out | apply below_alloc | apply pw_below_drewN | apply below_drew1) | exact HB.out)⟩⟩
                    · rw [if_neg c21] at H
                      have c21b0 : (t247 == 5) = false := beq_eq_false_iff_ne.mpr c21
                      have c21b1 : (t247 != 5) = true := bne_iff_ne.mpr c21
                      have H' := Aside0.mk H
                      clear H
                      go_wp2
                      go_meet
                      case rel => exact ⟨_, ((t247 != 7)), (by first | rfl | (simp; done) | (simp [*]; done)), H', ⟨by have := HJ2.out; have := HJ6.out; have := HJ9.out; first | omega | exact Nat.le_refl _⟩, ⟨by repeat (first | (with_reducible first | exact HB.out | apply below_alloc | apply pw_below_drewN | apply below_drew1) | exact HB.out)⟩⟩
                case rest =>
                  clear HC17
                  try clear c1
                  try clear c2
                  try clear p2
                  try clear c4
                  try clear c4b0
                  try clear c4b1
                  try clear c5
                  try clear p6
                  try clear c8
                  try clear c9
                  try clear c9b0
                  try clear c11
                  try clear c13
                  try clear c13b0
                  try clear c14
                  try clear c14b0
                  try clear c15
                  try clear c20
                  try clear c20b0
                  try clear c20b1
                  try clear c21
                  try clear c21b0
                  try clear c21b1
                  try clear p2
                  try clear p6
                  obtain ⟨kq, x75_16, rfl, HA, HJ16, HB⟩ := hcut
                  cases kq with
                  | zero => exact absurd HA.out (by simp [laws_FnSlots.j3])
                  | succ kj16 =>
                    have H := HA.out
                    clear HA
                    simp only [laws_FnSlots.j3] at H
                    have HC22 := Aside0.mk H
                    clear H
                    go_upto_if 75 with (fail)
                    go_cut [9] (fun v9 wc => ∃ (kq : Nat) (x9_21 : Int), v9 = .int .i64 x9_21 ∧ Aside0 (laws_FnSlots.j4 kq t246 x9_21 t249 t253 = some r) ∧ Aside0 (kq ≤ kj16) ∧ Aside0 (Below w.heap.size w wc))
                    case first =>
                      have H := HC22.out
                      clear HC22
                      by_cases c23 : x75_16 = true
                      · subst c23
                        have H1 : (laws_FnSlots.j4 kj16 t246 7 t249 t253) = some r := by rw [if_pos rfl] at H; exact H
                        clear H
                        have H := H1
                        clear H1
                        have H' := Aside0.mk H
                        clear H
                        go_wp2
                        go_meet
                        case rel => exact ⟨_, (7), (by first | rfl | (simp; done) | (simp [*]; done)), H', ⟨by have := HJ2.out; have := HJ6.out; have := HJ9.out; have := HJ16.out; first | omega | exact Nat.le_refl _⟩, ⟨by repeat (first | (with_reducible first | exact HB.out | apply below_alloc | apply pw_below_drewN | apply below_drew1) | exact HB.out)⟩⟩
                      · replace c23 := Bool.eq_false_iff.mpr c23
                        subst c23
                        have H1 : (laws_FnSlots.j4 kj16 t246 t247 t249 t253) = some r := by rw [if_neg (show ¬ (false = true) by decide)] at H; exact H
                        clear H
                        have H := H1
                        clear H1
                        have H' := Aside0.mk H
                        clear H
                        go_wp2
                        go_meet
                        case rel => exact ⟨_, (t247), (by first | rfl | (simp; done) | (simp [*]; done)), H', ⟨by have := HJ2.out; have := HJ6.out; have := HJ9.out; have := HJ16.out; first | omega | exact Nat.le_refl _⟩, ⟨by repeat (first | (with_reducible first | exact HB.out | apply below_alloc | apply pw_below_drewN | apply below_drew1) | exact HB.out)⟩⟩
                    case rest =>
                      clear HC22
                      try clear c1
                      try clear c2
                      try clear p2
                      try clear c4
                      try clear c4b0
                      try clear c4b1
                      try clear c5
                      try clear p6
                      try clear c8
                      try clear c9
                      try clear c9b0
                      try clear c11
                      try clear c13
                      try clear c13b0
                      try clear c14
                      try clear c14b0
                      try clear c15
                      try clear c20
                      try clear c20b0
                      try clear c20b1
                      try clear c21
                      try clear c21b0
                      try clear c21b1
                      try clear c23
                      try clear p2
                      try clear p6
                      obtain ⟨kq, x9_21, rfl, HA, HJ21, HB⟩ := hcut
                      cases kq with
                      | zero => exact absurd HA.out (by simp [laws_FnSlots.j4])
                      | succ kj21 =>
                        have H := HA.out
                        clear HA
                        simp only [laws_FnSlots.j4] at H
                        have HC24 := Aside0.mk H
                        clear H
                        go_upto_if 79 with (fail)
                        go_cut [8] (fun v8 wc => ∃ (kq : Nat) (x8_23 : Int), v8 = .int .i64 x8_23 ∧ Aside0 (laws_FnSlots.j5 kq x8_23 x9_21 t249 t253 = some r) ∧ Aside0 (kq ≤ kj21) ∧ Aside0 (Below w.heap.size w wc))
                        case first =>
                          have H := HC24.out
                          clear HC24
                          by_cases c25 : t246 < (wrap64 (8 * x9_21))
                          · rw [if_pos c25] at H
                            have c25b0 : decide (t246 < (wrap64 (8 * x9_21))) = true := decide_eq_true c25
                            clear c25
                            (first | rw [c25b0] | (simp only [i64_w, i32_w]; rw [c25b0]) | skip)
                            have H' := Aside0.mk H
                            clear H
                            go_wp2
                            go_meet
                            case rel => exact ⟨_, (wrap64 (t246 + (wrap64 (8 * x9_21)))), (by first | rfl | (simp; done) | (simp [*]; done)), H', ⟨by have := HJ2.out; have := HJ6.out; have := HJ9.out; have := HJ16.out; have := HJ21.out; first | omega | exact Nat.le_refl _⟩, ⟨by repeat (first | (with_reducible first | exact HB.out | apply below_alloc | apply pw_below_drewN | apply below_drew1) | exact HB.out)⟩⟩
                          · rw [if_neg c25] at H
                            have c25b0 : decide (t246 < (wrap64 (8 * x9_21))) = false := decide_eq_false c25
                            clear c25
                            (first | rw [c25b0] | (simp only [i64_w, i32_w]; rw [c25b0]) | skip)
                            have H' := Aside0.mk H
                            clear H
                            go_wp2
                            go_meet
                            case rel => exact ⟨_, (t246), (by first | rfl | (simp; done) | (simp [*]; done)), H', ⟨by have := HJ2.out; have := HJ6.out; have := HJ9.out; have := HJ16.out; have := HJ21.out; first | omega | exact Nat.le_refl _⟩, ⟨by repeat (first | (with_reducible first | exact HB.out | apply below_alloc | apply pw_below_drewN | apply below_drew1) | exact HB.out)⟩⟩
                        case rest =>
                          clear HC24
                          try clear c1
                          try clear c2
                          try clear p2
                          try clear c4
                          try clear c4b0
                          try clear c4b1
                          try clear c5
                          try clear p6
                          try clear c8
                          try clear c9
                          try clear c9b0
                          try clear c11
                          try clear c13
                          try clear c13b0
                          try clear c14
                          try clear c14b0
                          try clear c15
                          try clear c20
                          try clear c20b0
                          try clear c20b1
                          try clear c21
                          try clear c21b0
                          try clear c21b1
                          try clear c23
                          try clear c24
                          try clear c25
                          try clear c25b0
                          try clear p2
                          try clear p6
                          obtain ⟨kq, x8_23, rfl, HA, HJ23, HB⟩ := hcut
                          cases kq with
                          | zero => exact absurd HA.out (by simp [laws_FnSlots.j5])
                          | succ kj23 =>
                            have H := HA.out
                            clear HA
                            simp only [laws_FnSlots.j5] at H
                            have HC26 := Aside0.mk H
                            clear H
                            go_upto_if 85 with (fail)
                            go_cut [8] (fun v8 wc => ∃ (kq : Nat) (x8_25 : Int), v8 = .int .i64 x8_25 ∧ Aside0 (laws_FnSlots.j6 kq x8_25 x9_21 t249 t253 = some r) ∧ Aside0 (kq ≤ kj23) ∧ Aside0 (Below w.heap.size w wc))
                            case first =>
                              have H := HC26.out
                              clear HC26
                              by_cases c27 : x8_23 > 1000
                              · rw [if_pos c27] at H
                                have c27b0 : decide (1000 < x8_23) = true := decide_eq_true c27
                                clear c27
                                (first | rw [c27b0] | (simp only [i64_w, i32_w]; rw [c27b0]) | skip)
                                have H' := Aside0.mk H
                                clear H
                                go_wp2
                                go_meet
                                case rel => exact ⟨_, (1000), (by first | rfl | (simp; done) | (simp [*]; done)), H', ⟨by have := HJ2.out; have := HJ6.out; have := HJ9.out; have := HJ16.out; have := HJ21.out; have := HJ23.out; first | omega | exact Nat.le_refl _⟩, ⟨by repeat (first | (with_reducible first | exact HB.out | apply below_alloc | apply pw_below_drewN | apply below_drew1) | exact HB.out)⟩⟩
                              · rw [if_neg c27] at H
                                have c27b0 : decide (1000 < x8_23) = false := decide_eq_false c27
                                clear c27
                                (first | rw [c27b0] | (simp only [i64_w, i32_w]; rw [c27b0]) | skip)
                                have H' := Aside0.mk H
                                clear H
                                go_wp2
                                go_meet
                                case rel => exact ⟨_, (x8_23), (by first | rfl | (simp; done) | (simp [*]; done)), H', ⟨by have := HJ2.out; have := HJ6.out; have := HJ9.out; have := HJ16.out; have := HJ21.out; have := HJ23.out; first | omega | exact Nat.le_refl _⟩, ⟨by repeat (first | (with_reducible first | exact HB.out | apply below_alloc | apply pw_below_drewN | apply below_drew1) | exact HB.out)⟩⟩
                            case rest =>
                              clear HC26
                              try clear c1
                              try clear c2
                              try clear p2
                              try clear c4
                              try clear c4b0
                              try clear c4b1
                              try clear c5
                              try clear p6
                              try clear c8
                              try clear c9
                              try clear c9b0
                              try clear c11
                              try clear c13
                              try clear c13b0
                              try clear c14
                              try clear c14b0
                              try clear c15
                              try clear c20
                              try clear c20b0
                              try clear c20b1
                              try clear c21
                              try clear c21b0
                              try clear c21b1
                              try clear c23
                              try clear c24
                              try clear c25
                              try clear c25b0
                              try clear c27
                              try clear c27b0
                              try clear p2
                              try clear p6
                              obtain ⟨kq, x8_25, rfl, HA, HJ25, HB⟩ := hcut
                              cases kq with
                              | zero => exact absurd HA.out (by simp [laws_FnSlots.j6])
                              | succ kj25 =>
                                have H := HA.out
                                clear HA
                                simp only [laws_FnSlots.j6] at H
                                have HC28 := Aside0.mk H
                                clear H
                                go_upto_region 16 with (fail)
                                go_cut [91] (fun v91 wc => ∃ (kq : Nat) (x91_27 : Bool), v91 = .bool x91_27 ∧ Aside0 (laws_FnSlots.j7 kq x8_25 x9_21 t249 t253 x91_27 = some r) ∧ Aside0 (kq ≤ kj25) ∧ Aside0 (Below w.heap.size w wc))
                                case first =>
                                  have H := HC28.out
                                  clear HC28
                                  by_cases c29 : t249 < 0
                                  · rw [if_pos c29] at H
                                    have c29b0 : decide (t249 < 0) = true := decide_eq_true c29
                                    clear c29
                                    (first | rw [c29b0] | (simp only [i64_w, i32_w]; rw [c29b0]) | skip)
                                    have H' := Aside0.mk H
                                    clear H
                                    go_wp2
                                    go_meet
                                    case rel => exact ⟨_, (true), (by first | rfl | (simp; done) | (simp [*]; done)), H', ⟨by have := HJ2.out; have := HJ6.out; have := HJ9.out; have := HJ16.out; have := HJ21.out; have := HJ23.out; have := HJ25.out; first | omega | exact Nat.le_refl _⟩, ⟨by repeat (first | (with_reducible first | exact HB.out | apply below_alloc | apply pw_below_drewN | apply below_drew1) | exact HB.out)⟩⟩
                                  · rw [if_neg c29] at H
                                    have c29b0 : decide (t249 < 0) = false := decide_eq_false c29
                                    clear c29
                                    (first | rw [c29b0] | (simp only [i64_w, i32_w]; rw [c29b0]) | skip)
                                    have H' := Aside0.mk H
                                    clear H
                                    go_wp2
                                    go_meet
                                    case rel => exact ⟨_, (decide (t249 > 1099511627776)), (by first | rfl | (simp; done) | (simp [*]; done)), H', ⟨by have := HJ2.out; have := HJ6.out; have := HJ9.out; have := HJ16.out; have := HJ21.out; have := HJ23.out; have := HJ25.out; first | omega | exact Nat.le_refl _⟩, ⟨by repeat (first | (with_reducible first | exact HB.out | apply below_alloc | apply pw_below_drewN | apply below_drew1) | exact HB.out)⟩⟩
                                case rest =>
                                  clear HC28
                                  try clear c1
                                  try clear c2
                                  try clear p2
                                  try clear c4
                                  try clear c4b0
                                  try clear c4b1
                                  try clear c5
                                  try clear p6
                                  try clear c8
                                  try clear c9
                                  try clear c9b0
                                  try clear c11
                                  try clear c13
                                  try clear c13b0
                                  try clear c14
                                  try clear c14b0
                                  try clear c15
                                  try clear c20
                                  try clear c20b0
                                  try clear c20b1
                                  try clear c21
                                  try clear c21b0
                                  try clear c21b1
                                  try clear c23
                                  try clear c24
                                  try clear c25
                                  try clear c25b0
                                  try clear c27
                                  try clear c27b0
                                  try clear c29
                                  try clear c29b0
                                  try clear p2
                                  try clear p6
                                  obtain ⟨kq, x91_27, rfl, HA, HJ27, HB⟩ := hcut
                                  cases kq with
                                  | zero => exact absurd HA.out (by simp [laws_FnSlots.j7])
                                  | succ kj27 =>
                                    have H := HA.out
                                    clear HA
                                    simp only [laws_FnSlots.j7] at H
                                    have HC30 := Aside0.mk H
                                    clear H
                                    go_upto_if 91 with (fail)
                                    go_cut [11] (fun v11 wc => ∃ (kq : Nat) (x11_29 : Int), v11 = .int .i64 x11_29 ∧ Aside0 (laws_FnSlots.j8 kq x8_25 x9_21 x11_29 t253 = some r) ∧ Aside0 (kq ≤ kj27) ∧ Aside0 (Below w.heap.size w wc))
                                    case first =>
                                      have H := HC30.out
                                      clear HC30
                                      by_cases c31 : x91_27 = true
                                      · subst c31
                                        have H1 : (laws_FnSlots.j8 kj27 x8_25 x9_21 0 t253) = some r := by rw [if_pos rfl] at H; exact H
                                        clear H
                                        have H := H1
                                        clear H1
                                        have H' := Aside0.mk H
                                        clear H
                                        go_wp2
                                        go_meet
                                        case rel => exact ⟨_, (0), (by first | rfl | (simp; done) | (simp [*]; done)), H', ⟨by have := HJ2.out; have := HJ6.out; have := HJ9.out; have := HJ16.out; have := HJ21.out; have := HJ23.out; have := HJ25.out; have := HJ27.out; first | omega | exact Nat.le_refl _⟩, ⟨by repeat (first | (with_reducible first | exact HB.out | apply below_alloc | apply pw_below_drewN | apply below_drew1) | exact HB.out)⟩⟩
                                      · replace c31 := Bool.eq_false_iff.mpr c31
                                        subst c31
                                        have H1 : (laws_FnSlots.j8 kj27 x8_25 x9_21 t249 t253) = some r := by rw [if_neg (show ¬ (false = true) by decide)] at H; exact H
                                        clear H
                                        have H := H1
                                        clear H1
                                        have H' := Aside0.mk H
                                        clear H
                                        go_wp2
                                        go_meet
                                        case rel => exact ⟨_, (t249), (by first | rfl | (simp; done) | (simp [*]; done)), H', ⟨by have := HJ2.out; have := HJ6.out; have := HJ9.out; have := HJ16.out; have := HJ21.out; have := HJ23.out; have := HJ25.out; have := HJ27.out; first | omega | exact Nat.le_refl _⟩, ⟨by repeat (first | (with_reducible first | exact HB.out | apply below_alloc | apply pw_below_drewN | apply below_drew1) | exact HB.out)⟩⟩
                                    case rest =>
                                      clear HC30
                                      try clear c1
                                      try clear c2
                                      try clear p2
                                      try clear c3
                                      try clear c4
                                      try clear c4b0
                                      try clear c4b1
                                      try clear c5
                                      try clear p6
                                      try clear c8
                                      try clear c9
                                      try clear c9b0
                                      try clear c11
                                      try clear c13
                                      try clear c13b0
                                      try clear c14
                                      try clear c14b0
                                      try clear c15
                                      try clear c20
                                      try clear c20b0
                                      try clear c20b1
                                      try clear c21
                                      try clear c21b0
                                      try clear c21b1
                                      try clear c23
                                      try clear c24
                                      try clear c25
                                      try clear c25b0
                                      try clear c27
                                      try clear c27b0
                                      try clear c29
                                      try clear c29b0
                                      try clear c31
                                      try clear p2
                                      try clear p6
                                      obtain ⟨kq, x11_29, rfl, HA, HJ29, HB⟩ := hcut
                                      cases kq with
                                      | zero => exact absurd HA.out (by simp [laws_FnSlots.j8])
                                      | succ kj29 =>
                                        have H := HA.out
                                        clear HA
                                        simp only [laws_FnSlots.j8] at H
                                        have HC32 := Aside0.mk H
                                        clear H
                                        go_upto_region 18 with (fail)
                                        go_cut [97] (fun v97 wc => ∃ (kq : Nat) (x97_31 : Bool), v97 = .bool x97_31 ∧ Aside0 (laws_FnSlots.j9 kq x8_25 x9_21 x11_29 t253 x97_31 = some r) ∧ Aside0 (kq ≤ kj29) ∧ Aside0 (Below w.heap.size w wc))
                                        case first =>
                                          have H := HC32.out
                                          clear HC32
                                          by_cases c33 : t253 < 0
                                          · rw [if_pos c33] at H
                                            have c33b0 : decide (t253 < 0) = true := decide_eq_true c33
                                            clear c33
                                            (first | rw [c33b0] | (simp only [i64_w, i32_w]; rw [c33b0]) | skip)
                                            have H' := Aside0.mk H
                                            clear H
                                            go_wp2
                                            go_meet
                                            case rel => exact ⟨_, (true), (by first | rfl | (simp; done) | (simp [*]; done)), H', ⟨by have := HJ2.out; have := HJ6.out; have := HJ9.out; have := HJ16.out; have := HJ21.out; have := HJ23.out; have := HJ25.out; have := HJ27.out; have := HJ29.out; first | omega | exact Nat.le_refl _⟩, ⟨by repeat (first | (with_reducible first | exact HB.out | apply below_alloc | apply pw_below_drewN | apply below_drew1) | exact HB.out)⟩⟩
                                          · rw [if_neg c33] at H
                                            have c33b0 : decide (t253 < 0) = false := decide_eq_false c33
                                            clear c33
                                            (first | rw [c33b0] | (simp only [i64_w, i32_w]; rw [c33b0]) | skip)
                                            have H' := Aside0.mk H
                                            clear H
                                            go_wp2
                                            go_meet
                                            case rel => exact ⟨_, (decide (t253 > 1099511627776)), (by first | rfl | (simp; done) | (simp [*]; done)), H', ⟨by have := HJ2.out; have := HJ6.out; have := HJ9.out; have := HJ16.out; have := HJ21.out; have := HJ23.out; have := HJ25.out; have := HJ27.out; have := HJ29.out; first | omega | exact Nat.le_refl _⟩, ⟨by repeat (first | (with_reducible first | exact HB.out | apply below_alloc | apply pw_below_drewN | apply below_drew1) | exact HB.out)⟩⟩
                                        case rest =>
                                          clear HC32
                                          try clear c1
                                          try clear c2
                                          try clear p2
                                          try clear c3
                                          try clear c4
                                          try clear c4b0
                                          try clear c4b1
                                          try clear c5
                                          try clear p6
                                          try clear c8
                                          try clear c9
                                          try clear c9b0
                                          try clear c11
                                          try clear c13
                                          try clear c13b0
                                          try clear c14
                                          try clear c14b0
                                          try clear c15
                                          try clear c20
                                          try clear c20b0
                                          try clear c20b1
                                          try clear c21
                                          try clear c21b0
                                          try clear c21b1
                                          try clear c23
                                          try clear c24
                                          try clear c25
                                          try clear c25b0
                                          try clear c27
                                          try clear c27b0
                                          try clear c29
                                          try clear c29b0
                                          try clear c31
                                          try clear c33
                                          try clear c33b0
                                          try clear p2
                                          try clear p6
                                          obtain ⟨kq, x97_31, rfl, HA, HJ31, HB⟩ := hcut
                                          cases kq with
                                          | zero => exact absurd HA.out (by simp [laws_FnSlots.j9])
                                          | succ kj31 =>
                                            have H := HA.out
                                            clear HA
                                            simp only [laws_FnSlots.j9] at H
                                            have HC34 := Aside0.mk H
                                            clear H
                                            go_upto_if 97 with (fail)
                                            go_cut [15] (fun v15 wc => ∃ (kq : Nat) (x15_33 : Int), v15 = .int .i64 x15_33 ∧ Aside0 (laws_FnSlots.j10 kq x8_25 x9_21 x11_29 x15_33 = some r) ∧ Aside0 (kq ≤ kj31) ∧ Aside0 (Below w.heap.size w wc))
                                            case first =>
                                              have H := HC34.out
                                              clear HC34
                                              by_cases c35 : x97_31 = true
                                              · subst c35
                                                have H1 : (laws_FnSlots.j10 kj31 x8_25 x9_21 x11_29 3) = some r := by rw [if_pos rfl] at H; exact H
                                                clear H
                                                have H := H1
                                                clear H1
                                                have H' := Aside0.mk H
                                                clear H
                                                go_wp2
                                                go_meet
                                                case rel => exact ⟨_, (3), (by first | rfl | (simp; done) | (simp [*]; done)), H', ⟨by have := HJ2.out; have := HJ6.out; have := HJ9.out; have := HJ16.out; have := HJ21.out; have := HJ23.out; have := HJ25.out; have := HJ27.out; have := HJ29.out; have := HJ31.out; first | omega | exact Nat.le_refl _⟩, ⟨by repeat (first | (with_reducible first | exact HB.out | apply below_alloc | apply pw_below_drewN | apply below_drew1) | exact HB.out)⟩⟩
                                              · replace c35 := Bool.eq_false_iff.mpr c35
                                                subst c35
                                                have H1 : (laws_FnSlots.j10 kj31 x8_25 x9_21 x11_29 t253) = some r := by rw [if_neg (show ¬ (false = true) by decide)] at H; exact H
                                                clear H
                                                have H := H1
                                                clear H1
                                                have H' := Aside0.mk H
                                                clear H
                                                go_wp2
                                                go_meet
                                                case rel => exact ⟨_, (t253), (by first | rfl | (simp; done) | (simp [*]; done)), H', ⟨by have := HJ2.out; have := HJ6.out; have := HJ9.out; have := HJ16.out; have := HJ21.out; have := HJ23.out; have := HJ25.out; have := HJ27.out; have := HJ29.out; have := HJ31.out; first | omega | exact Nat.le_refl _⟩, ⟨by repeat (first | (with_reducible first | exact HB.out | apply below_alloc | apply pw_below_drewN | apply below_drew1) | exact HB.out)⟩⟩
                                            case rest =>
                                              clear HC34
                                              try clear c1
                                              try clear c2
                                              try clear p2
                                              try clear c3
                                              try clear c4
                                              try clear c4b0
                                              try clear c4b1
                                              try clear c5
                                              try clear p6
                                              try clear c8
                                              try clear c9
                                              try clear c9b0
                                              try clear c11
                                              try clear c13
                                              try clear c13b0
                                              try clear c14
                                              try clear c14b0
                                              try clear c15
                                              try clear c20
                                              try clear c20b0
                                              try clear c20b1
                                              try clear c21
                                              try clear c21b0
                                              try clear c21b1
                                              try clear c23
                                              try clear c24
                                              try clear c25
                                              try clear c25b0
                                              try clear c27
                                              try clear c27b0
                                              try clear c29
                                              try clear c29b0
                                              try clear c31
                                              try clear c33
                                              try clear c33b0
                                              try clear c35
                                              try clear p2
                                              try clear p6
                                              obtain ⟨kq, x15_33, rfl, HA, HJ33, HB⟩ := hcut
                                              cases kq with
                                              | zero => exact absurd HA.out (by simp [laws_FnSlots.j10])
                                              | succ kj33 =>
                                                have H := HA.out
                                                clear HA
                                                simp only [laws_FnSlots.j10] at H
                                                have H' := Aside0.mk H
                                                clear H
                                                go_wp2
                                                go_loopg [16] kj33 (fun kq v16 w' => ∃ (x16_12 : Int), v16 = .int .i64 x16_12 ∧ Aside0 (laws_FnSlots.l0 kq x8_25 x9_21 x11_29 x15_33 x16_12 = some r) ∧ Aside0 (kq ≤ kj33) ∧ Aside0 (Below w.heap.size w w'))
                                                case atStart => exact ⟨(1), (by first | rfl | (simp; done) | (simp [*]; done)), H', ⟨Nat.le_refl _⟩, ⟨by repeat (first | (with_reducible first | exact HB.out | apply below_alloc | apply pw_below_drewN | apply below_drew1) | exact HB.out)⟩⟩
                                                case round =>
                                                  clear H'
                                                  try clear c1
                                                  try clear c2
                                                  try clear p2
                                                  try clear c3
                                                  try clear c4
                                                  try clear c4b0
                                                  try clear c4b1
                                                  try clear c5
                                                  try clear p6
                                                  try clear c8
                                                  try clear c9
                                                  try clear c9b0
                                                  try clear c11
                                                  try clear c13
                                                  try clear c13b0
                                                  try clear c14
                                                  try clear c14b0
                                                  try clear c15
                                                  try clear c20
                                                  try clear c20b0
                                                  try clear c20b1
                                                  try clear c21
                                                  try clear c21b0
                                                  try clear c21b1
                                                  try clear c23
                                                  try clear c24
                                                  try clear c25
                                                  try clear c25b0
                                                  try clear c27
                                                  try clear c27b0
                                                  try clear c29
                                                  try clear c29b0
                                                  try clear c31
                                                  try clear c33
                                                  try clear c33b0
                                                  try clear c35
                                                  try clear p2
                                                  try clear p6
                                                  obtain ⟨x16_12, rfl, HA, HK12, HB⟩ := hrel
                                                  cases gk with
                                                  | zero => exact absurd HA.out (by simp [laws_FnSlots.l0])
                                                  | succ k12 =>
                                                    have H := HA.out
                                                    clear HA
                                                    simp only [laws_FnSlots.l0] at H
                                                    by_cases c36 : x16_12 ≤ x9_21
                                                    · rw [if_pos c36] at H
                                                      have c36b0 : decide (x16_12 ≤ x9_21) = true := decide_eq_true c36
                                                      clear c36
                                                      have H' := Aside0.mk H
                                                      clear H
                                                      go_wp2
                                                      go_loopg [17] k12 (fun kq v17 w' => ∃ (x17_13 : Int), v17 = .int .i64 x17_13 ∧ Aside0 (laws_FnSlots.l1 kq x8_25 x9_21 x11_29 x15_33 x16_12 x17_13 = some r) ∧ Aside0 (kq ≤ k12) ∧ Aside0 (Below w.heap.size w w'))
                                                      case atStart => exact ⟨(1), (by first | rfl | (simp; done) | (simp [*]; done)), H', ⟨Nat.le_refl _⟩, ⟨by repeat (first | (with_reducible first | exact HB.out | apply below_alloc | apply pw_below_drewN | apply below_drew1) | exact HB.out)⟩⟩
                                                      case round =>
                                                        clear H'
                                                        try clear c1
                                                        try clear c2
                                                        try clear p2
                                                        try clear c3
                                                        try clear c4
                                                        try clear c4b0
                                                        try clear c4b1
                                                        try clear c5
                                                        try clear p6
                                                        try clear c8
                                                        try clear c9
                                                        try clear c9b0
                                                        try clear c11
                                                        try clear c13
                                                        try clear c13b0
                                                        try clear c14
                                                        try clear c14b0
                                                        try clear c15
                                                        try clear c20
                                                        try clear c20b0
                                                        try clear c20b1
                                                        try clear c21
                                                        try clear c21b0
                                                        try clear c21b1
                                                        try clear c23
                                                        try clear c24
                                                        try clear c25
                                                        try clear c25b0
                                                        try clear c27
                                                        try clear c27b0
                                                        try clear c29
                                                        try clear c29b0
                                                        try clear c31
                                                        try clear c33
                                                        try clear c33b0
                                                        try clear c35
                                                        try clear c36
                                                        try clear c36b0
                                                        try clear p2
                                                        try clear p6
                                                        obtain ⟨x17_13, rfl, HA, HK13, HB⟩ := hrel
                                                        cases gk with
                                                        | zero => exact absurd HA.out (by simp [laws_FnSlots.l1])
                                                        | succ k13 =>
                                                          have H := HA.out
                                                          clear HA
                                                          simp only [laws_FnSlots.l1] at H
                                                          by_cases c37 : x17_13 ≤ x9_21
                                                          · rw [if_pos c37] at H
                                                            have c37b0 : decide (x17_13 ≤ x9_21) = true := decide_eq_true c37
                                                            clear c37
                                                            replace H := Option.bind_eq_some_iff.mp H
                                                            obtain ⟨t254, A380, H⟩ := H
                                                            replace H : ((impl_TimeoutOf.f x8_25 t254).bind fun t255 => ((impl_SlotDraw.f x8_25 x9_21 x17_13 x15_33).bind fun t256 => ((impl_TimeoutOf.f x8_25 t256).bind fun t257 => (if (wrap64 (x11_29 + t255)) < (wrap64 (x11_29 + x8_25)) then (none) else (if (wrap64 (x15_33 + t257)) < (wrap64 (x15_33 + x8_25)) then (none) else (if x16_12 = x17_13 then (laws_FnSlots.l1 k13 x8_25 x9_21 x11_29 x15_33 x16_12 (wrap64 (x17_13 + 1))) else ((laws_far.f (wrap64 (x11_29 + t255)) (wrap64 (x15_33 + t257))).bind fun t258 => (if t258 = true then (laws_FnSlots.l1 k13 x8_25 x9_21 x11_29 x15_33 x16_12 (wrap64 (x17_13 + 1))) else (none))))))))) = some r := H
                                                            have A38 := Aside0.mk A380
                                                            clear A380
                                                            replace H := Option.bind_eq_some_iff.mp H
                                                            obtain ⟨t255, A390, H⟩ := H
                                                            replace H : ((impl_SlotDraw.f x8_25 x9_21 x17_13 x15_33).bind fun t256 => ((impl_TimeoutOf.f x8_25 t256).bind fun t257 => (if (wrap64 (x11_29 + t255)) < (wrap64 (x11_29 + x8_25)) then (none) else (if (wrap64 (x15_33 + t257)) < (wrap64 (x15_33 + x8_25)) then (none) else (if x16_12 = x17_13 then (laws_FnSlots.l1 k13 x8_25 x9_21 x11_29 x15_33 x16_12 (wrap64 (x17_13 + 1))) else ((laws_far.f (wrap64 (x11_29 + t255)) (wrap64 (x15_33 + t257))).bind fun t258 => (if t258 = true then (laws_FnSlots.l1 k13 x8_25 x9_21 x11_29 x15_33 x16_12 (wrap64 (x17_13 + 1))) else (none)))))))) = some r := H
                                                            have A39 := Aside0.mk A390
                                                            clear A390
                                                            replace H := Option.bind_eq_some_iff.mp H
                                                            obtain ⟨t256, A400, H⟩ := H
                                                            replace H : ((impl_TimeoutOf.f x8_25 t256).bind fun t257 => (if (wrap64 (x11_29 + t255)) < (wrap64 (x11_29 + x8_25)) then (none) else (if (wrap64 (x15_33 + t257)) < (wrap64 (x15_33 + x8_25)) then (none) else (if x16_12 = x17_13 then (laws_FnSlots.l1 k13 x8_25 x9_21 x11_29 x15_33 x16_12 (wrap64 (x17_13 + 1))) else ((laws_far.f (wrap64 (x11_29 + t255)) (wrap64 (x15_33 + t257))).bind fun t258 => (if t258 = true then (laws_FnSlots.l1 k13 x8_25 x9_21 x11_29 x15_33 x16_12 (wrap64 (x17_13 + 1))) else (none))))))) = some r := H
                                                            have A40 := Aside0.mk A400
                                                            clear A400
                                                            replace H := Option.bind_eq_some_iff.mp H
                                                            obtain ⟨t257, A410, H⟩ := H
                                                            replace H : (if (wrap64 (x11_29 + t255)) < (wrap64 (x11_29 + x8_25)) then (none) else (if (wrap64 (x15_33 + t257)) < (wrap64 (x15_33 + x8_25)) then (none) else (if x16_12 = x17_13 then (laws_FnSlots.l1 k13 x8_25 x9_21 x11_29 x15_33 x16_12 (wrap64 (x17_13 + 1))) else ((laws_far.f (wrap64 (x11_29 + t255)) (wrap64 (x15_33 + t257))).bind fun t258 => (if t258 = true then (laws_FnSlots.l1 k13 x8_25 x9_21 x11_29 x15_33 x16_12 (wrap64 (x17_13 + 1))) else (none)))))) = some r := H
                                                            have A41 := Aside0.mk A410
                                                            clear A410
                                                            by_cases c42 : (wrap64 (x11_29 + t255)) < (wrap64 (x11_29 + x8_25))
                                                            · rw [if_pos c42] at H
                                                              exact absurd H (by simp)
                                                            · rw [if_neg c42] at H
                                                              have c42b0 : decide ((wrap64 (x11_29 + t255)) < (wrap64 (x11_29 + x8_25))) = false := decide_eq_false c42
                                                              clear c42
                                                              by_cases c43 : (wrap64 (x15_33 + t257)) < (wrap64 (x15_33 + x8_25))
                                                              · rw [if_pos c43] at H
                                                                exact absurd H (by simp)
                                                              · rw [if_neg c43] at H
                                                                have c43b0 : decide ((wrap64 (x15_33 + t257)) < (wrap64 (x15_33 + x8_25))) = false := decide_eq_false c43
                                                                clear c43
                                                                by_cases c44 : x16_12 = x17_13
                                                                · rw [if_pos c44] at H
                                                                  have c44b0 : (x16_12 == x17_13) = true := beq_iff_eq.mpr c44
                                                                  have c44b1 : (x16_12 != x17_13) = false := bne_eq_false_iff_eq.mpr c44
                                                                  clear c44
                                                                  have H' := Aside0.mk H
                                                                  clear H
                                                                  go_wp2_with (first | ((with_reducible refine gate_callee (f := 17) rfl ?_); refine goesL_ (some 114) rfl rfl Try.func17 (by kernel_rfl) rfl #[.int .i64 x8_25, .int .i64 x9_21, .int .i64 x16_12, .int .i64 x11_29] rfl (by (try simp only [List.map_toArray, List.map_cons, List.map_nil]); first | done | rfl | (simp only [List.length_drop, List.length_take]; rfl)) ?_; (with_reducible refine (impl_SlotDraw.calls x8_25 x9_21 x16_12 x11_29 t254 _ A38.out).mono ?_); rintro e w' ⟨rfl, ⟨nd, rfl⟩⟩; refine ⟨_, rfl, ?_⟩) | ((with_reducible refine gate_callee (f := 15) rfl ?_); refine goesL_ (some 115) rfl rfl Try.func15 (by kernel_rfl) rfl #[.int .i64 x8_25, .int .i64 t254] rfl (by (try simp only [List.map_toArray, List.map_cons, List.map_nil]); first | done | rfl | (simp only [List.length_drop, List.length_take]; rfl)) ?_; (with_reducible refine (impl_TimeoutOf.calls x8_25 t254 t255 _ A39.out).mono ?_); rintro e w' ⟨rfl, ⟨nd, rfl⟩⟩; refine ⟨_, rfl, ?_⟩) | ((with_reducible refine gate_callee (f := 17) rfl ?_); refine goesL_ (some 123) rfl rfl Try.func17 (by kernel_rfl) rfl #[.int .i64 x8_25, .int .i64 x9_21, .int .i64 x17_13, .int .i64 x15_33] rfl (by (try simp only [List.map_toArray, List.map_cons, List.map_nil]); first | done | rfl | (simp only [List.length_drop, List.length_take]; rfl)) ?_; (with_reducible refine (impl_SlotDraw.calls x8_25 x9_21 x17_13 x15_33 t256 _ A40.out).mono ?_); rintro e w' ⟨rfl, ⟨nd, rfl⟩⟩; refine ⟨_, rfl, ?_⟩) | ((with_reducible refine gate_callee (f := 15) rfl ?_); refine goesL_ (some 124) rfl rfl Try.func15 (by kernel_rfl) rfl #[.int .i64 x8_25, .int .i64 t256] rfl (by (try simp only [List.map_toArray, List.map_cons, List.map_nil]); first | done | rfl | (simp only [List.length_drop, List.length_take]; rfl)) ?_; (with_reducible refine (impl_TimeoutOf.calls x8_25 t256 t257 _ A41.out).mono ?_); rintro e w' ⟨rfl, ⟨nd, rfl⟩⟩; refine ⟨_, rfl, ?_⟩))
                                                                  go_roundg k13
                                                                  case measure => have := HJ2.out; have := HJ6.out; have := HJ9.out; have := HJ16.out; have := HJ21.out; have := HJ23.out; have := HJ25.out; have := HJ27.out; have := HJ29.out; have := HJ31.out; have := HJ33.out; have := HK12.out; have := HK13.out; omega
                                                                  case rel => exact ⟨(wrap64 (x17_13 + 1)), (by first | rfl | (simp; done) | (simp [*]; done)), H', ⟨by have := HJ2.out; have := HJ6.out; have := HJ9.out; have := HJ16.out; have := HJ21.out; have := HJ23.out; have := HJ25.out; have := HJ27.out; have := HJ29.out; have := HJ31.out; have := HJ33.out; have := HK12.out; have := HK13.out; omega⟩, ⟨by repeat (first | (with_reducible first | exact HB.out | apply below_alloc | apply pw_below_drewN | apply below_drew1) | exact HB.out)⟩⟩
                                                                · rw [if_neg c44] at H
                                                                  have c44b0 : (x16_12 == x17_13) = false := beq_eq_false_iff_ne.mpr c44
                                                                  have c44b1 : (x16_12 != x17_13) = true := bne_iff_ne.mpr c44
                                                                  replace H := Option.bind_eq_some_iff.mp H
                                                                  obtain ⟨t258, A450, H⟩ := H
                                                                  replace H : (if t258 = true then (laws_FnSlots.l1 k13 x8_25 x9_21 x11_29 x15_33 x16_12 (wrap64 (x17_13 + 1))) else (none)) = some r := H
                                                                  have A45 := Aside0.mk A450
                                                                  clear A450
                                                                  by_cases c46 : t258 = true
                                                                  · subst c46
                                                                    have H1 : (laws_FnSlots.l1 k13 x8_25 x9_21 x11_29 x15_33 x16_12 (wrap64 (x17_13 + 1))) = some r := by rw [if_pos rfl] at H; exact H
                                                                    clear H
                                                                    have H := H1
                                                                    clear H1
                                                                    have H' := Aside0.mk H
                                                                    clear H
                                                                    go_wp2_with (first | ((with_reducible refine gate_callee (f := 17) rfl ?_); refine goesL_ (some 114) rfl rfl Try.func17 (by kernel_rfl) rfl #[.int .i64 x8_25, .int .i64 x9_21, .int .i64 x16_12, .int .i64 x11_29] rfl (by (try simp only [List.map_toArray, List.map_cons, List.map_nil]); first | done | rfl | (simp only [List.length_drop, List.length_take]; rfl)) ?_; (with_reducible refine (impl_SlotDraw.calls x8_25 x9_21 x16_12 x11_29 t254 _ A38.out).mono ?_); rintro e w' ⟨rfl, ⟨nd, rfl⟩⟩; refine ⟨_, rfl, ?_⟩) | ((with_reducible refine gate_callee (f := 15) rfl ?_); refine goesL_ (some 115) rfl rfl Try.func15 (by kernel_rfl) rfl #[.int .i64 x8_25, .int .i64 t254] rfl (by (try simp only [List.map_toArray, List.map_cons, List.map_nil]); first | done | rfl | (simp only [List.length_drop, List.length_take]; rfl)) ?_; (with_reducible refine (impl_TimeoutOf.calls x8_25 t254 t255 _ A39.out).mono ?_); rintro e w' ⟨rfl, ⟨nd, rfl⟩⟩; refine ⟨_, rfl, ?_⟩) | ((with_reducible refine gate_callee (f := 17) rfl ?_); refine goesL_ (some 123) rfl rfl Try.func17 (by kernel_rfl) rfl #[.int .i64 x8_25, .int .i64 x9_21, .int .i64 x17_13, .int .i64 x15_33] rfl (by (try simp only [List.map_toArray, List.map_cons, List.map_nil]); first | done | rfl | (simp only [List.length_drop, List.length_take]; rfl)) ?_; (with_reducible refine (impl_SlotDraw.calls x8_25 x9_21 x17_13 x15_33 t256 _ A40.out).mono ?_); rintro e w' ⟨rfl, ⟨nd, rfl⟩⟩; refine ⟨_, rfl, ?_⟩) | ((with_reducible refine gate_callee (f := 15) rfl ?_); refine goesL_ (some 124) rfl rfl Try.func15 (by kernel_rfl) rfl #[.int .i64 x8_25, .int .i64 t256] rfl (by (try simp only [List.map_toArray, List.map_cons, List.map_nil]); first | done | rfl | (simp only [List.length_drop, List.length_take]; rfl)) ?_; (with_reducible refine (impl_TimeoutOf.calls x8_25 t256 t257 _ A41.out).mono ?_); rintro e w' ⟨rfl, ⟨nd, rfl⟩⟩; refine ⟨_, rfl, ?_⟩) | (go_at_call 25; (with_reducible refine (laws_far.calls (wrap64 (x11_29 + t255)) (wrap64 (x15_33 + t257)) true _ A45.out).mono ?_); rintro e w' ⟨rfl, ⟨nd, rfl⟩⟩))
                                                                    go_roundg k13
                                                                    case measure => have := HJ2.out; have := HJ6.out; have := HJ9.out; have := HJ16.out; have := HJ21.out; have := HJ23.out; have := HJ25.out; have := HJ27.out; have := HJ29.out; have := HJ31.out; have := HJ33.out; have := HK12.out; have := HK13.out; omega
                                                                    case rel => exact ⟨(wrap64 (x17_13 + 1)), (by first | rfl | (simp; done) | (simp [*]; done)), H', ⟨by have := HJ2.out; have := HJ6.out; have := HJ9.out; have := HJ16.out; have := HJ21.out; have := HJ23.out; have := HJ25.out; have := HJ27.out; have := HJ29.out; have := HJ31.out; have := HJ33.out; have := HK12.out; have := HK13.out; omega⟩, ⟨by repeat (first | (with_reducible first | exact HB.out | apply below_alloc | apply pw_below_drewN | apply below_drew1) | exact HB.out)⟩⟩
                                                                  · replace c46 := Bool.eq_false_iff.mpr c46
                                                                    subst c46
                                                                    have H1 : (none) = some r := by rw [if_neg (show ¬ (false = true) by decide)] at H; exact H
                                                                    clear H
                                                                    have H := H1
                                                                    clear H1
                                                                    exact absurd H (by simp)
                                                          · rw [if_neg c37] at H
                                                            have c37b0 : decide (x17_13 ≤ x9_21) = false := decide_eq_false c37
                                                            clear c37
                                                            have H' := Aside0.mk H
                                                            clear H
                                                            go_wp2
                                                            go_roundg k13
                                                            case measure => have := HJ2.out; have := HJ6.out; have := HJ9.out; have := HJ16.out; have := HJ21.out; have := HJ23.out; have := HJ25.out; have := HJ27.out; have := HJ29.out; have := HJ31.out; have := HJ33.out; have := HK12.out; have := HK13.out; omega
                                                            case rel => exact ⟨(wrap64 (x16_12 + 1)), (by first | rfl | (simp; done) | (simp [*]; done)), H', ⟨by have := HJ2.out; have := HJ6.out; have := HJ9.out; have := HJ16.out; have := HJ21.out; have := HJ23.out; have := HJ25.out; have := HJ27.out; have := HJ29.out; have := HJ31.out; have := HJ33.out; have := HK12.out; have := HK13.out; omega⟩, ⟨by repeat (first | (with_reducible first | exact HB.out | apply below_alloc | apply pw_below_drewN | apply below_drew1) | exact HB.out)⟩⟩
                                                    · rw [if_neg c36] at H
                                                      have c36b0 : decide (x16_12 ≤ x9_21) = false := decide_eq_false c36
                                                      clear c36
                                                      obtain rfl := Option.some.inj H
                                                      go_wp2
                                                      go_ret
                                                      exact ⟨by first | rfl | (simp [errW_none, errW_some] <;> rfl) | (simp [*, errW_none, errW_some] <;> rfl), by repeat (first | (with_reducible first | exact HB.out | apply below_alloc | apply pw_below_drewN | apply below_drew1) | exact HB.out)⟩

/-- THE ONE PURE STATEMENT of laws_FnSlots: yours. -/
def laws_FnSlots.Pure : Prop := ∀ (l0 : List Int) (l1 : List Int), l0.length ≤ maxLen → l0.length * 1 ≤ 140737488351232 → (∀ x ∈ l0, (Lit.int .u8 x).wf = true) → l1.length ≤ maxLen → l1.length * 1 ≤ 140737488351232 → (∀ x ∈ l1, (Lit.int .u8 x).wf = true) → ∃ k, laws_FnSlots.f k l0 l1 = some true
theorem laws_FnSlots.walk (P : laws_FnSlots.Pure) (a0 : Option Addr) (len0 cap0 : Nat) (z0 : List Int) (a1 : Option Addr) (len1 cap1 : Nat) (z1 : List Int) (w : World) (w0 : (a0 = none ∧ len0 = 0 ∧ cap0 = 0 ∧ z0 = []) ∨ ∃ x, a0 = some x ∧ len0 ≤ cap0 ∧ cap0 ≤ maxLen ∧ z0.length = cap0 ∧ (∀ i, i < z0.length → w.cell? (x.add i) = some (.int .u8 (z0.getD i 0))) ∧ ∀ n ∈ z0, (Lit.int .u8 n).wf = true) (y0 : len0 * 1 ≤ 140737488351232) (w1 : (a1 = none ∧ len1 = 0 ∧ cap1 = 0 ∧ z1 = []) ∨ ∃ x, a1 = some x ∧ len1 ≤ cap1 ∧ cap1 ≤ maxLen ∧ z1.length = cap1 ∧ (∀ i, i < z1.length → w.cell? (x.add i) = some (.int .u8 (z1.getD i 0))) ∧ ∀ n ∈ z1, (Lit.int .u8 n).wf = true) (y1 : len1 * 1 ≤ 140737488351232) :
    Calls Try.prog 8 #[.slice a0 len0 cap0, .slice a1 len1 cap1] w fun e w' => e = .returned (.bool true) ∧ Below w.heap.size w w' := by
  obtain ⟨l0, rfl, hr0, hm0, hw0, hc0⟩ := ReadsInt.ofRowC w0
  obtain ⟨l1, rfl, hr1, hm1, hw1, hc1⟩ := ReadsInt.ofRowC w1
  obtain ⟨k, h⟩ := P l0 l1 hm0 y0 hw0 hm1 y1 hw1
  refine (laws_FnSlots.calls k _ _ l0 _ _ l1 true w (Kd.C_of_reads (d := (0 : Int)) (h1 := fun _ => rfl) hr0) hc0 (Kd.C_of_reads (d := (0 : Int)) (h1 := fun _ => rfl) hr1) hc1 h).mono ?_
  rintro e w' ⟨rfl, hd⟩
  exact ⟨rfl, hd⟩

end Go.Proofs.Ytmiocbonmknioaa.P
