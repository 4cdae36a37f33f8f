/- firstBroken and the numbers of the broken rules: the program's way and the reference's, both in closed form. -/
import Derived.Test.YtnbcpiaajckoaaaBase
import Derived.Test.YtnbcpiaajckoaaaPx1
import Derived.Test.YtnbcpiaajckoaaaPx6
namespace Go.Proofs.Ytnbcpiaajckoaaa.Pure
open Go.RowKit Go.Proofs.Ytnbcpiaajckoaaa.P Go.Proofs.Ytnbcpiaajckoaaa.Mth Go.Proofs.YtnbcpiaajckoaaaW.PrintWords

theorem l1in_eq (a b c : Int) : spec_l1in.f a b c = some (decide (b ≤ a ∧ a ≤ c)) := by
  unfold spec_l1in.f
  by_cases h : b ≤ a <;> simp [h]
theorem within_eq (a b c : Int) : impl_within.f a b c = some (decide (b ≤ a ∧ a ≤ c)) := l1in_eq a b c
theorem firstBroken_from (l : List Bool) (hl : l.length ≤ 1000) : ∀ (d i k : Nat), i + d = l.length → d < k → impl_firstBroken.l0 k l l.length i = some (fb (l.drop i) i) := by
  intro d
  induction d with
  | zero =>
    intro i k hi hk
    obtain ⟨k, rfl⟩ : ∃ m, k = m + 1 := ⟨k - 1, by omega⟩
    simp only [impl_firstBroken.l0]
    rw [if_neg (by omega), List.drop_eq_nil_of_le (by omega)]
    rfl
  | succ d ih =>
    intro i k hi hk
    obtain ⟨k, rfl⟩ : ∃ m, k = m + 1 := ⟨k - 1, by omega⟩
    simp only [impl_firstBroken.l0]
    have hlt : i < l.length := by omega
    rw [if_pos (by omega), if_pos (by omega), if_pos (by omega), wrap_succ (by omega), List.drop_eq_getElem_cons hlt]
    have e : rdOf false l (i : Int) = l[i] := by
      unfold rdOf
      rw [Int.toNat_natCast, List.getD_eq_getElem?_getD, List.getElem?_eq_getElem hlt]
      rfl
    rw [e]
    by_cases hb : l[i] = true
    · rw [if_pos hb, ih (i + 1) k (by omega) (by omega)]
      simp [fb, hb]
    · rw [if_neg hb]
      simp [fb, hb]

theorem firstBroken_eq (l : List Bool) (hl : l.length ≤ 1000) {k : Nat} (hk : l.length < k) : impl_firstBroken.f k l = some (fb l 0) := by
  unfold impl_firstBroken.f
  exact firstBroken_from l hl l.length 0 k (by omega) hk
end Go.Proofs.Ytnbcpiaajckoaaa.Pure
