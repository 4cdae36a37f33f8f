/- Timers: each stays in its range, and the first timers of two nodes of a cluster that start within one span lie at least 8 rounds apart. -/
import Derived.Test.YtmiocbonmknioaaDraw
import Derived.Test.YtmiocbonmknioaaFaults
import Derived.Test.YtmiocbonmknioaaPx10
import Derived.Test.YtmiocbonmknioaaPx11
import Derived.Test.YtmiocbonmknioaaPx12
namespace Go.Proofs.Ytmiocbonmknioaa.Pure
open Go.RowKit Go.Proofs.Ytmiocbonmknioaa.P Go.Proofs.Ytmiocbonmknioaa.Mth Go.Proofs.YtmiocbonmknioaaW.PrintWords

theorem modulo_emod (x : Int) {n : Int} (h1 : 1 ≤ n) (h2 : n ≤ 1099511627776) : impl_modulo.f x n = some (x % n) := by
  have hb := tmod_bounds x h1
  unfold impl_modulo.f
  rw [if_neg (by omega), wrap64_id (by omega) (by omega), Int.tmod_eq_emod_of_nonneg (by omega), Int.add_emod_right]
  congr 1
  have h := Int.tmod_add_mul_tdiv x n
  have e : x = Int.tmod x n + n * Int.tdiv x n := by omega
  have e2 : (Int.tmod x n + n * Int.tdiv x n) % n = Int.tmod x n % n := Int.add_mul_emod_self_left _ _ _
  rw [← e2, ← e]

theorem timeout_in (B r : Int) (h1 : 1 ≤ B) (h2 : B ≤ 1000) (hr0 : 0 ≤ r) (hr : r < B) : impl_TimeoutOf.f B r = some (B + r) := by
  unfold impl_TimeoutOf.f
  rw [within_eq, decide_eq_true ⟨h1, h2⟩]
  simp only [Option.bind_some, if_true]
  rw [modulo_emod r h1 (by omega), Int.emod_eq_of_lt hr0 hr]
  simp only [Option.bind_some]
  rw [wrap64_id (by omega) (by omega)]

theorem timeout_range (B x : Int) (h1 : 1 ≤ B) (h2 : B ≤ 1000) : ∃ t, impl_TimeoutOf.f B x = some t ∧ B ≤ t ∧ t ≤ 2 * B - 1 := by
  have a := Int.emod_nonneg x (show B ≠ 0 by omega)
  have b := Int.emod_lt_of_pos x (show 0 < B by omega)
  refine ⟨B + x % B, ?_, by omega, by omega⟩
  unfold impl_TimeoutOf.f
  rw [within_eq, decide_eq_true ⟨h1, h2⟩]
  simp only [Option.bind_some, if_true]
  rw [modulo_emod x h1 (by omega)]
  simp only [Option.bind_some]
  rw [wrap64_id (by omega) (by omega)]

theorem slotDraw_eq {B z i x : Int} (hz : z = 3 ∨ z = 5 ∨ z = 7) (hB : 8 * z ≤ B) (hB2 : B ≤ 1000) (hi : 1 ≤ i ∧ i ≤ z) (hx : 0 ≤ x ∧ x ≤ 1099511627776) :
    impl_SlotDraw.f B z i x = some (((i - 1) * (B / z) - x) % B) := by
  have hs0 : 0 ≤ B / z := Int.ediv_nonneg (by omega) (by omega)
  have hs1 : B / z ≤ 1000 := by
    have := Int.ediv_le_self z (show 0 ≤ B by omega)
    omega
  have hp0 : 0 ≤ (i - 1) * (B / z) := Int.mul_nonneg (by omega) hs0
  have hp1 : (i - 1) * (B / z) ≤ 6 * 1000 := Int.mul_le_mul (by omega) hs1 hs0 (by omega)
  unfold impl_SlotDraw.f
  rw [within_eq, decide_eq_true (show 1 ≤ B ∧ B ≤ 1000 by omega)]
  simp only [Option.bind_some, if_true]
  rw [sizeOk_eq, decide_eq_true hz]
  simp only [Option.bind_some, if_true]
  rw [within_eq, decide_eq_true hi]
  simp only [Option.bind_some, if_true]
  rw [within_eq, decide_eq_true hx]
  simp only [Option.bind_some, if_true]
  rw [if_neg (by omega), Int.tdiv_eq_ediv_of_nonneg (by omega), wrap64_id (x := i - 1) (by omega) (by omega), wrap64_id (x := B / z) (by omega) (by omega), wrap64_id (x := (i - 1) * (B / z)) (by omega) (by omega), wrap64_id (by omega) (by omega), modulo_emod _ (by omega) (by omega)]
  rfl

theorem far_plain {B z i j x y : Int} (hB : 8 * z ≤ B) (hi : 1 ≤ i ∧ i ≤ z) (hj : 1 ≤ j ∧ j ≤ z) (hne : i ≠ j) :
    8 ≤ (x + ((i - 1) * (B / z) - x) % B) - (y + ((j - 1) * (B / z) - y) % B) ∨ (x + ((i - 1) * (B / z) - x) % B) - (y + ((j - 1) * (B / z) - y) % B) ≤ -8 := by
  have hs8 : 8 ≤ B / z := (Int.le_ediv_iff_mul_le (by omega)).mpr hB
  have hsz : B / z * z ≤ B := Int.ediv_mul_le B (by omega)
  generalize B / z = s at *
  have e1 := Int.emod_add_mul_ediv ((i - 1) * s - x) B
  have e2 := Int.emod_add_mul_ediv ((j - 1) * s - y) B
  generalize ((i - 1) * s - x) % B = r at *
  generalize ((j - 1) * s - y) % B = q at *
  generalize ((i - 1) * s - x) / B = c at *
  generalize ((j - 1) * s - y) / B = d at *
  have hd : (x + r) - (y + q) = (i - j) * s - B * (c - d) := by
    have a1 : (i - 1) * s = i * s - s := by rw [Int.sub_mul, Int.one_mul]
    have a2 : (j - 1) * s = j * s - s := by rw [Int.sub_mul, Int.one_mul]
    have a3 : (i - j) * s = i * s - j * s := Int.sub_mul ..
    have a4 : B * (c - d) = B * c - B * d := Int.mul_sub ..
    rw [a1] at e1
    rw [a2] at e2
    rw [a3, a4]
    omega
  rw [hd]
  have hzs : (z - 1) * s = s * z - s := by rw [Int.sub_mul, Int.one_mul, Int.mul_comm]
  have hw : c - d = 0 ∧ B * (c - d) = 0 ∨ B ≤ B * (c - d) ∨ B * (c - d) ≤ -B := by
    by_cases h0 : c - d = 0
    · left
      exact ⟨h0, by rw [h0, Int.mul_zero]⟩
    · right
      by_cases hp : 1 ≤ c - d
      · left
        have := Int.mul_le_mul_of_nonneg_left hp (show 0 ≤ B by omega)
        omega
      · right
        have := Int.mul_le_mul_of_nonneg_left (show c - d ≤ -1 by omega) (show 0 ≤ B by omega)
        omega
  generalize B * (c - d) = w at *
  by_cases hlt : i < j
  · have h1 : (i - j) * s ≤ -1 * s := Int.mul_le_mul_of_nonneg_right (by omega) (by omega)
    have h2 : (-(z - 1)) * s ≤ (i - j) * s := Int.mul_le_mul_of_nonneg_right (by omega) (by omega)
    rw [Int.neg_mul, hzs] at h2
    generalize (i - j) * s = p at *
    omega
  · have h1 : 1 * s ≤ (i - j) * s := Int.mul_le_mul_of_nonneg_right (by omega) (by omega)
    have h2 : (i - j) * s ≤ (z - 1) * s := Int.mul_le_mul_of_nonneg_right (by omega) (by omega)
    rw [hzs] at h2
    generalize (i - j) * s = p at *
    omega

/-- The inner loop over the second node, then the outer one. -/
theorem slots_inner {B z x y i : Int} (hz : z = 3 ∨ z = 5 ∨ z = 7) (hB : 8 * z ≤ B) (hB2 : B ≤ 1000) (hi : 1 ≤ i ∧ i ≤ z) (hx : 0 ≤ x ∧ x ≤ 1099511627776) (hy : 0 ≤ y ∧ y ≤ 1099511627776) :
    ∀ (d : Nat) (j : Int), 1 ≤ j → j + d = z + 1 → ∀ k, laws_FnSlots.l1 (k + d + 1) B z x y i j = laws_FnSlots.l0 k B z x y (i + 1) := by
  intro d
  induction d with
  | zero =>
    intro j h1 hj k
    simp only [laws_FnSlots.l1]
    rw [if_neg (by omega), wrap64_id (by omega) (by omega)]
  | succ d ih =>
    intro j h1 hj k
    have hj' : 1 ≤ j ∧ j ≤ z := by omega
    have r0 := Int.emod_nonneg ((i - 1) * (B / z) - x) (show B ≠ 0 by omega)
    have r1 := Int.emod_lt_of_pos ((i - 1) * (B / z) - x) (show 0 < B by omega)
    have q0 := Int.emod_nonneg ((j - 1) * (B / z) - y) (show B ≠ 0 by omega)
    have q1 := Int.emod_lt_of_pos ((j - 1) * (B / z) - y) (show 0 < B by omega)
    have hfar := fun hne => far_plain (x := x) (y := y) hB hi hj' hne
    have es := slotDraw_eq hz hB hB2 hi hx
    have et := slotDraw_eq hz hB hB2 hj' hy
    generalize ((i - 1) * (B / z) - x) % B = r at *
    generalize ((j - 1) * (B / z) - y) % B = q at *
    have step : laws_FnSlots.l1 (k + (d + 1) + 1) B z x y i j = laws_FnSlots.l1 (k + (d + 1)) B z x y i (j + 1) := by
      simp only [laws_FnSlots.l1]
      rw [if_pos hj'.2, es]
      simp only [Option.bind_some]
      rw [timeout_in B r (by omega) hB2 r0 r1]
      simp only [Option.bind_some]
      rw [et]
      simp only [Option.bind_some]
      rw [timeout_in B q (by omega) hB2 q0 q1]
      simp only [Option.bind_some]
      rw [wrap64_id (x := x + (B + r)) (by omega) (by omega), wrap64_id (x := x + B) (by omega) (by omega), wrap64_id (x := y + (B + q)) (by omega) (by omega), wrap64_id (x := y + B) (by omega) (by omega), wrap64_id (x := j + 1) (by omega) (by omega), if_neg (by omega), if_neg (by omega)]
      by_cases hij : i = j
      · rw [if_pos hij]
      · rw [if_neg hij]
        have hf := hfar hij
        unfold laws_far.f
        rw [wrap64_id (x := x + (B + r) - (y + (B + q))) (by omega) (by omega), wrap64_id (x := y + (B + q) - (x + (B + r))) (by omega) (by omega)]
        by_cases h8 : x + (B + r) - (y + (B + q)) ≥ 8
        · rw [if_pos h8]
          simp only [Option.bind_some, if_true]
        · rw [if_neg h8, decide_eq_true (by omega)]
          simp only [Option.bind_some, if_true]
    rw [step]
    exact ih (j + 1) (by omega) (by omega) k

theorem slots_outer {B z x y : Int} (hz : z = 3 ∨ z = 5 ∨ z = 7) (hB : 8 * z ≤ B) (hB2 : B ≤ 1000) (hx : 0 ≤ x ∧ x ≤ 1099511627776) (hy : 0 ≤ y ∧ y ≤ 1099511627776) :
    ∀ (d : Nat) (i : Int), 1 ≤ i → i + d = z + 1 → ∀ k, 10 * d < k → laws_FnSlots.l0 k B z x y i = some true := by
  intro d
  induction d with
  | zero =>
    intro i h1 hi k hk
    obtain ⟨k, rfl⟩ : ∃ m, k = m + 1 := ⟨k - 1, by omega⟩
    simp only [laws_FnSlots.l0]
    rw [if_neg (by omega)]
  | succ d ih =>
    intro i h1 hi k hk
    obtain ⟨k, rfl⟩ : ∃ m, k = m + z.toNat + 1 + 1 := ⟨k - z.toNat - 2, by omega⟩
    have hin := slots_inner hz hB hB2 (i := i) (by omega) hx hy z.toNat 1 (by omega) (by omega) k
    simp only [laws_FnSlots.l0]
    rw [if_pos (by omega), hin]
    exact ih (i + 1) (by omega) (by omega) k (by omega)

theorem slots_j6 {B z x y : Int} (hz : z = 3 ∨ z = 5 ∨ z = 7) (hB : 8 * z ≤ B) (hB2 : B ≤ 1000) (k : Nat) (hk : 100 < k) : laws_FnSlots.j6 k B z x y = some true := by
  have last : ∀ x y, (0 ≤ x ∧ x ≤ 1099511627776) → (0 ≤ y ∧ y ≤ 1099511627776) → ∀ k, 80 < k → laws_FnSlots.j10 k B z x y = some true := by
    intro x y hx hy k hk
    obtain ⟨k, rfl⟩ : ∃ m, k = m + 1 := ⟨k - 1, by omega⟩
    simp only [laws_FnSlots.j10]
    exact slots_outer hz hB hB2 hx hy z.toNat 1 (by omega) (by omega) k (by omega)
  have j8 : ∀ x y, (0 ≤ x ∧ x ≤ 1099511627776) → ∀ k, 90 < k → laws_FnSlots.j8 k B z x y = some true := by
    intro x y hx k hk
    obtain ⟨k, rfl⟩ : ∃ m, k = m + 2 := ⟨k - 2, by omega⟩
    simp only [laws_FnSlots.j8, laws_FnSlots.j9]
    by_cases h0 : y < 0
    · rw [if_pos h0, if_pos trivial]
      exact last x 3 hx (by omega) k (by omega)
    · rw [if_neg h0]
      by_cases h1 : y > 1099511627776
      · rw [decide_eq_true h1, if_pos rfl]
        exact last x 3 hx (by omega) k (by omega)
      · rw [decide_eq_false h1, if_neg (by decide)]
        exact last x y hx (by omega) k (by omega)
  obtain ⟨k, rfl⟩ : ∃ m, k = m + 2 := ⟨k - 2, by omega⟩
  simp only [laws_FnSlots.j6, laws_FnSlots.j7]
  by_cases h0 : x < 0
  · rw [if_pos h0, if_pos trivial]
    exact j8 0 y (by omega) k (by omega)
  · rw [if_neg h0]
    by_cases h1 : x > 1099511627776
    · rw [decide_eq_true h1, if_pos rfl]
      exact j8 0 y (by omega) k (by omega)
    · rw [decide_eq_false h1, if_neg (by decide)]
      exact j8 x y (by omega) k (by omega)

theorem slots_j4 {B z x y : Int} (hz : z = 3 ∨ z = 5 ∨ z = 7) (hB : 0 ≤ B) (hB2 : B ≤ 2000) (k : Nat) (hk : 110 < k) : laws_FnSlots.j4 k B z x y = some true := by
  have j5 : ∀ B, 8 * z ≤ B → ∀ k, 105 < k → laws_FnSlots.j5 k B z x y = some true := by
    intro B hB k hk
    obtain ⟨k, rfl⟩ : ∃ m, k = m + 1 := ⟨k - 1, by omega⟩
    simp only [laws_FnSlots.j5]
    by_cases h : B > 1000
    · rw [if_pos h]
      exact slots_j6 hz (by omega) (by omega) k (by omega)
    · rw [if_neg h]
      exact slots_j6 hz hB (by omega) k (by omega)
  obtain ⟨k, rfl⟩ : ∃ m, k = m + 1 := ⟨k - 1, by omega⟩
  simp only [laws_FnSlots.j4]
  rw [wrap64_id (x := 8 * z) (by omega) (by omega)]
  by_cases h : B < 8 * z
  · rw [if_pos h, wrap64_id (by omega) (by omega)]
    exact j5 _ (by omega) k (by omega)
  · rw [if_neg h]
    exact j5 B (by omega) k (by omega)

theorem drawTimeout_ok (l : List Int) (hl : l.length ≤ 1048576) (hu : ∀ x ∈ l, (Lit.int .u8 x).wf = true) : ∃ a b, ∀ k, 5 < k → spec_DrawTimeoutOf.f k l = some (a, b) := by
  have j0 : ∀ x p, 0 ≤ p → p ≤ 1000 → ∃ a b, ∀ k, 4 < k → spec_DrawTimeoutOf.j0 k x l p = some (a, b) := by
    intro x p h0 h1
    obtain ⟨v, q, e, c1, c2, _, _⟩ := pick_ok l hl hu h0 (show p ≤ 999999000 by omega) (show (1 : Int) ≤ 70000 by omega)
    obtain ⟨u, q', e', d1, d2, _, _⟩ := pick_ok l hl hu (show 0 ≤ q by omega) (show q ≤ 999999000 by omega) (show (1 : Int) ≤ 2 by omega)
    refine ⟨x, if u = 0 then wrap64 (-v) else v, fun k hk => ?_⟩
    obtain ⟨k, rfl⟩ : ∃ m, k = m + 1 := ⟨k - 1, by omega⟩
    simp only [spec_DrawTimeoutOf.j0]
    rw [e k (by omega)]
    simp only [Option.bind_some]
    rw [e' k (by omega)]
    simp only [Option.bind_some]
    split <;> rfl
  obtain ⟨v, q, e, c1, c2, _, _⟩ := pick_ok l hl hu (show (0 : Int) ≤ 0 by omega) (show (0 : Int) ≤ 999999000 by omega) (show (1 : Int) ≤ 300 by omega)
  obtain ⟨u, q', e', d1, d2, _, _⟩ := pick_ok l hl hu (show 0 ≤ q by omega) (show q ≤ 999999000 by omega) (show (1 : Int) ≤ 4 by omega)
  by_cases h : u = 0
  · obtain ⟨t, r, et, f1, f2, _, _⟩ := pick_ok l hl hu (show 0 ≤ q' by omega) (show q' ≤ 999999000 by omega) (show (1 : Int) ≤ 3 by omega)
    obtain ⟨a, b, hj⟩ := j0 (wrap64 (999 + t)) r (by omega) (by omega)
    refine ⟨a, b, fun k hk => ?_⟩
    unfold spec_DrawTimeoutOf.f
    rw [e k (by omega)]
    simp only [Option.bind_some]
    rw [e' k (by omega)]
    simp only [Option.bind_some]
    rw [if_pos h, et k (by omega)]
    exact hj k (by omega)
  · obtain ⟨a, b, hj⟩ := j0 v q' (by omega) (by omega)
    refine ⟨a, b, fun k hk => ?_⟩
    unfold spec_DrawTimeoutOf.f
    rw [e k (by omega)]
    simp only [Option.bind_some]
    rw [e' k (by omega)]
    simp only [Option.bind_some]
    rw [if_neg h]
    exact hj k (by omega)

theorem drawSlot_ok (l : List Int) (hl : l.length ≤ 1048576) (hu : ∀ x ∈ l, (Lit.int .u8 x).wf = true) : ∃ a b c d, 0 ≤ a ∧ a ≤ 2000 ∧ ∀ k, 9 < k → spec_DrawSlotDraw.f k l = some (a, b, c, d) := by
  have j1 : ∀ x y p, 0 ≤ p → p ≤ 10000 → ∃ c d, ∀ k, 4 < k → spec_DrawSlotDraw.j1 k x y l p = some (x, y, c, d) := by
    intro x y p h0 h1
    obtain ⟨v, q, e, c1, c2, _, _⟩ := pick_ok l hl hu h0 (show p ≤ 999999000 by omega) (show (1 : Int) ≤ 9 by omega)
    obtain ⟨u, q', e', d1, d2, _, _⟩ := pick_ok l hl hu (show 0 ≤ q by omega) (show q ≤ 999999000 by omega) (show (1 : Int) ≤ 70000 by omega)
    obtain ⟨t, r, et, f1, f2, _, _⟩ := pick_ok l hl hu (show 0 ≤ q' by omega) (show q' ≤ 999999000 by omega) (show (1 : Int) ≤ 10 by omega)
    obtain ⟨t', r', et', g1, g2, _, _⟩ := pick_ok l hl hu (show 0 ≤ r by omega) (show r ≤ 999999000 by omega) (show (1 : Int) ≤ 2 by omega)
    refine ⟨v, if t = 0 then wrap64 (1099511627776 + t') else wrap64 (u - 2), fun k hk => ?_⟩
    obtain ⟨k, rfl⟩ : ∃ m, k = m + 1 := ⟨k - 1, by omega⟩
    simp only [spec_DrawSlotDraw.j1]
    rw [e k (by omega)]
    simp only [Option.bind_some]
    rw [e' k (by omega)]
    simp only [Option.bind_some]
    rw [et k (by omega)]
    simp only [Option.bind_some]
    by_cases h : t = 0
    · rw [if_pos h, if_pos h, et' k (by omega)]
      rfl
    · rw [if_neg h, if_neg h]
  have j0 : ∀ x p, 0 ≤ p → p ≤ 5000 → ∃ b c d, ∀ k, 6 < k → spec_DrawSlotDraw.j0 k x l p = some (x, b, c, d) := by
    intro x p h0 h1
    obtain ⟨v, q, e, c1, c2, _, _⟩ := pick_ok l hl hu h0 (show p ≤ 999999000 by omega) (show (1 : Int) ≤ 3 by omega)
    obtain ⟨u, q', e', d1, d2, _, _⟩ := pick_ok l hl hu (show 0 ≤ q by omega) (show q ≤ 999999000 by omega) (show (1 : Int) ≤ 10 by omega)
    by_cases h : u = 0
    · obtain ⟨t, r, et, f1, f2, _, _⟩ := pick_ok l hl hu (show 0 ≤ q' by omega) (show q' ≤ 999999000 by omega) (show (1 : Int) ≤ 10 by omega)
      obtain ⟨c, d, hj⟩ := j1 x t r (by omega) (by omega)
      refine ⟨t, c, d, fun k hk => ?_⟩
      obtain ⟨k, rfl⟩ : ∃ m, k = m + 1 := ⟨k - 1, by omega⟩
      simp only [spec_DrawSlotDraw.j0]
      rw [e k (by omega)]
      simp only [Option.bind_some]
      rw [e' k (by omega)]
      simp only [Option.bind_some]
      rw [if_pos h, et k (by omega)]
      exact hj k (by omega)
    · obtain ⟨c, d, hj⟩ := j1 x (wrap64 (3 + (wrap64 (2 * v)))) q' (by omega) (by omega)
      refine ⟨wrap64 (3 + (wrap64 (2 * v))), c, d, fun k hk => ?_⟩
      obtain ⟨k, rfl⟩ : ∃ m, k = m + 1 := ⟨k - 1, by omega⟩
      simp only [spec_DrawSlotDraw.j0]
      rw [e k (by omega)]
      simp only [Option.bind_some]
      rw [e' k (by omega)]
      simp only [Option.bind_some]
      rw [if_neg h]
      exact hj k (by omega)
  obtain ⟨v, q, e, c1, c2, v0, v1⟩ := pick_ok l hl hu (show (0 : Int) ≤ 0 by omega) (show (0 : Int) ≤ 999999000 by omega) (show (1 : Int) ≤ 200 by omega)
  obtain ⟨u, q', e', d1, d2, _, _⟩ := pick_ok l hl hu (show 0 ≤ q by omega) (show q ≤ 999999000 by omega) (show (1 : Int) ≤ 4 by omega)
  by_cases h : u = 0
  · obtain ⟨t, r, et, f1, f2, t0, t1⟩ := pick_ok l hl hu (show 0 ≤ q' by omega) (show q' ≤ 999999000 by omega) (show (1 : Int) ≤ 3 by omega)
    have hw : wrap64 (999 + t) = 999 + t := wrap64_id (by omega) (by omega)
    obtain ⟨b, c, d, hj⟩ := j0 (wrap64 (999 + t)) r (by omega) (by omega)
    refine ⟨wrap64 (999 + t), b, c, d, by omega, by omega, fun k hk => ?_⟩
    unfold spec_DrawSlotDraw.f
    rw [e k (by omega)]
    simp only [Option.bind_some]
    rw [e' k (by omega)]
    simp only [Option.bind_some]
    rw [if_pos h, et k (by omega)]
    exact hj k (by omega)
  · obtain ⟨b, c, d, hj⟩ := j0 v q' (by omega) (by omega)
    refine ⟨v, b, c, d, by omega, by omega, fun k hk => ?_⟩
    unfold spec_DrawSlotDraw.f
    rw [e k (by omega)]
    simp only [Option.bind_some]
    rw [e' k (by omega)]
    simp only [Option.bind_some]
    rw [if_neg h]
    exact hj k (by omega)

theorem slots_j2 (l m : List Int) (hl : l.length ≤ 1048576) (hu : ∀ x ∈ l, (Lit.int .u8 x).wf = true) (hm : m.length ≤ 1048576) (hv : ∀ x ∈ m, (Lit.int .u8 x).wf = true) (k : Nat) (hk : 120 < k) :
    laws_FnSlots.j2 k l m = some true := by
  obtain ⟨a, b, c, d, ha0, ha1, e⟩ := drawSlot_ok l hl hu
  obtain ⟨a', b', c', d', _, _, e'⟩ := drawSlot_ok m hm hv
  have j3 : ∀ z x, (x = true ∨ z = 3 ∨ z = 5 ∨ z = 7) → ∀ k, 115 < k → laws_FnSlots.j3 k a z d d' x = some true := by
    intro z x hx k hk
    obtain ⟨k, rfl⟩ : ∃ m, k = m + 1 := ⟨k - 1, by omega⟩
    simp only [laws_FnSlots.j3]
    by_cases h : x = true
    · rw [if_pos h]
      exact slots_j4 (by omega) ha0 ha1 k (by omega)
    · rw [if_neg h]
      exact slots_j4 (hx.resolve_left h) ha0 ha1 k (by omega)
  obtain ⟨k, rfl⟩ : ∃ m, k = m + 1 := ⟨k - 1, by omega⟩
  simp only [laws_FnSlots.j2]
  rw [e k (by omega)]
  simp only [Option.bind_some]
  rw [e' k (by omega)]
  simp only [Option.bind_some]
  by_cases h3 : b = 3
  · rw [if_pos h3]
    exact j3 b false (by omega) k (by omega)
  · rw [if_neg h3]
    by_cases h5 : b = 5
    · rw [if_pos h5]
      exact j3 b false (by omega) k (by omega)
    · rw [if_neg h5]
      refine j3 b (b != 7) ?_ k (by omega)
      by_cases h7 : b = 7
      · exact .inr (.inr (.inr h7))
      · exact .inl (by simpa using h7)

theorem FnSlots : laws_FnSlots.Pure := by
  intro l m _ _ hu _ _ hv
  refine ⟨200, ?_⟩
  unfold laws_FnSlots.f
  by_cases hl : (l.length : Int) > 1048576
  · rw [if_pos hl]
    simp only [laws_FnSlots.j0, if_true]
  · rw [if_neg hl]
    by_cases hm : (m.length : Int) > 1048576
    · rw [decide_eq_true hm]
      simp only [laws_FnSlots.j0, if_true]
    · rw [decide_eq_false hm]
      obtain ⟨a, b, e⟩ := drawTimeout_ok l (by omega) hu
      have j2 := slots_j2 l m (by omega) hu (by omega) hv
      simp only [laws_FnSlots.j0]
      rw [if_neg (by decide), e 199 (by omega)]
      simp only [Option.bind_some]
      by_cases h1 : a ≥ 1
      · rw [if_pos h1]
        simp only [laws_FnSlots.j1]
        by_cases h2 : a ≤ 1000
        · obtain ⟨t, et, t1, t2⟩ := timeout_range a b h1 h2
          rw [decide_eq_true h2, if_pos rfl, et]
          simp only [Option.bind_some]
          rw [wrap64_id (x := 2 * a) (by omega) (by omega), wrap64_id (by omega) (by omega), if_neg (by omega), if_neg (by omega)]
          exact j2 198 (by omega)
        · rw [decide_eq_false h2, if_neg (by decide)]
          exact j2 198 (by omega)
      · rw [if_neg h1]
        simp only [laws_FnSlots.j1]
        rw [if_neg (by decide)]
        exact j2 198 (by omega)
end Go.Proofs.Ytmiocbonmknioaa.Pure
