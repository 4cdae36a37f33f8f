/- For all arguments the program's calm draw is the reference's: the same guards, then the same remainder. -/
import Derived.Test.YtmiocbonmknioaaPFnExactSlotDrawx1
import Derived.Test.YtmiocbonmknioaaMath
namespace Go.Proofs.Ytmiocbonmknioaa.Pure
open Go.RowKit Go.Proofs.Ytmiocbonmknioaa.PFnExactSlotDraw

theorem slot_size (b : Int) : impl_sizeOk.f b = spec_l3size.f b := rfl

theorem slot_size_some (b : Int) : spec_l3size.f b = some (decide (b = 3 ∨ b = 5 ∨ b = 7)) := by
  unfold spec_l3size.f
  by_cases h3 : b = 3 <;> by_cases h5 : b = 5 <;> by_cases h7 : b = 7 <;> simp [h3, h5, h7]

theorem slot_in (a b c : Int) : spec_l1in.f a b c = some (decide (b ≤ a ∧ a ≤ c)) := by
  unfold spec_l1in.f
  by_cases h : b ≤ a <;> simp [h]

theorem slot_mod (x : Int) {n : Int} (h1 : 1 ≤ n) (h2 : n ≤ 1000) : ∃ r, impl_modulo.f x n = some r ∧ spec_l1mod.f x n = some r := by
  have h0 : n ≠ 0 := by omega
  have hm := Mth.modulo_same x h1 (by omega)
  unfold impl_modulo.f spec_l1mod.f
  rw [if_neg h0, if_neg h0, hm]
  split
  · exact ⟨_, rfl, rfl⟩
  · exact ⟨_, rfl, rfl⟩

theorem slot_some (a b c d : Int) : ∃ r, impl_SlotDraw.f a b c d = some r ∧ spec_SlotDraw.f a b c d = some r := by
  have hin : ∀ x y z, impl_within.f x y z = spec_l1in.f x y z := fun _ _ _ => rfl
  unfold impl_SlotDraw.f spec_SlotDraw.f
  simp only [hin, slot_size, slot_in, slot_size_some, Option.bind_some, decide_eq_true_eq]
  by_cases h1 : 1 ≤ a ∧ a ≤ 1000
  · rw [if_pos h1, if_pos h1]
    by_cases h2 : b = 3 ∨ b = 5 ∨ b = 7
    · rw [if_pos h2, if_pos h2]
      by_cases h3 : 1 ≤ c ∧ c ≤ b
      · rw [if_pos h3, if_pos h3]
        by_cases h4 : 0 ≤ d ∧ d ≤ 1099511627776
        · rw [if_pos h4, if_pos h4]
          have h0 : b ≠ 0 := by omega
          rw [if_neg h0, if_neg h0]
          obtain ⟨r, e1, e2⟩ := slot_mod (wrap64 ((wrap64 ((wrap64 (c - 1)) * (wrap64 (Int.tdiv a b)))) - d)) h1.1 h1.2
          exact ⟨r, by rw [e1]; rfl, by rw [e2]; rfl⟩
        · rw [if_neg h4, if_neg h4]; exact ⟨_, rfl, rfl⟩
      · rw [if_neg h3, if_neg h3]; exact ⟨_, rfl, rfl⟩
    · rw [if_neg h2, if_neg h2]; exact ⟨_, rfl, rfl⟩
  · rw [if_neg h1, if_neg h1]; exact ⟨_, rfl, rfl⟩

theorem FnExactSlotDraw : laws_FnExactSlotDraw.Pure := by
  intro a b c d _ _ _ _
  obtain ⟨r, e1, e2⟩ := slot_some a b c d
  unfold laws_FnExactSlotDraw.f
  rw [e1, e2]
  simp

end Go.Proofs.Ytmiocbonmknioaa.Pure
