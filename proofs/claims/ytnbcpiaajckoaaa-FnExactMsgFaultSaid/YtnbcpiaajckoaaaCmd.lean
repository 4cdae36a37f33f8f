/- The faults of a command, the program's way and the reference's, in one closed form. -/
import Derived.Test.YtnbcpiaajckoaaaFaults
import Derived.Test.YtnbcpiaajckoaaaPx1
import Derived.Test.YtnbcpiaajckoaaaPx2
import Derived.Test.YtnbcpiaajckoaaaPx6
import Derived.Test.YtnbcpiaajckoaaaPx7
namespace Go.Proofs.Ytnbcpiaajckoaaa.Pure
open Go.RowKit Go.Proofs.Ytnbcpiaajckoaaa.P Go.Proofs.Ytnbcpiaajckoaaa.Mth

/-- The number of the first broken rule of a command (client, seq, op; the sizes of key, val, old). -/
def cmdFaultN (a b c : Int) (x y z : Int) : Int :=
  if c = 0 then if a = 0 then if b = 0 then if x = 0 then if y = 0 then if z = 0 then 0 else 6 else 5 else 4 else 3 else 2
  else if 1 ≤ c ∧ c ≤ 4 then if 1 ≤ a ∧ a ≤ 8 then if 1 ≤ b ∧ b ≤ 1073741824 then if 1 ≤ x ∧ x ≤ 64 then
    if y ≤ (if c = 2 ∨ c = 4 then 64 else 0) then if z ≤ (if c = 4 then 64 else 0) then 0 else 6 else 5 else 4 else 3 else 2 else 1

def cmdFault (a b c : Int) (x y z : ByteArray) : Int := cmdFaultN a b c x.size y.size z.size

theorem impl_CmdFault_eq (a b c : Int) (x y z : ByteArray) {k : Nat} (hk : 8 < k) : impl_CmdFault.f k a b c x y z = some (cmdFault a b c x y z) := by
  obtain ⟨k, rfl⟩ : ∃ m, k = m + 1 := ⟨k - 1, by omega⟩
  unfold impl_CmdFault.f cmdFault cmdFaultN
  simp only [impl_CmdFault.j0, within_eq, Option.bind_some, beq_nil]
  by_cases h0 : c = 0
  · rw [if_pos h0, if_pos h0, firstBroken_eq _ (by simp) (by simp; omega)]
    simp only [fb, Option.bind_some, beq_iff_eq, decide_eq_true_eq, if_true]
    repeat' split
    all_goals rfl
  · rw [if_neg h0, if_neg h0]
    by_cases h4 : c = 4
    · rw [show (if c = 2 ∨ c = 4 then (64 : Int) else 0) = 64 from if_pos (Or.inr h4), show (if c = 4 then (64 : Int) else 0) = 64 from if_pos h4, if_pos h4, firstBroken_eq _ (by simp) (by simp; omega)]
      simp only [fb, Option.bind_some, decide_eq_true_eq]
      repeat' split
      all_goals first | rfl | omega
    · rw [if_neg h4]
      by_cases h2 : c = 2
      · rw [show (if c = 2 ∨ c = 4 then (64 : Int) else 0) = 64 from if_pos (Or.inl h2), show (if c = 4 then (64 : Int) else 0) = 0 from if_neg h4, if_pos h2, firstBroken_eq _ (by simp) (by simp; omega)]
        simp only [fb, Option.bind_some, decide_eq_true_eq]
        repeat' split
        all_goals first | rfl | omega
      · rw [show (if c = 2 ∨ c = 4 then (64 : Int) else 0) = 0 from if_neg (fun h => h.elim h2 h4), show (if c = 4 then (64 : Int) else 0) = 0 from if_neg h4, if_neg h2, firstBroken_eq _ (by simp) (by simp; omega)]
        simp only [fb, Option.bind_some, decide_eq_true_eq]
        repeat' split
        all_goals first | rfl | omega

set_option linter.unusedSimpArgs false
set_option maxHeartbeats 2000000 in
theorem spec_CmdFault_eq (a b c : Int) (x y z : ByteArray) {k : Nat} (hk : 8 < k) : spec_CmdFault.f k a b c x y z = some (cmdFault a b c x y z) := by
  obtain ⟨k, rfl⟩ : ∃ m, k = m + 8 := ⟨k - 8, by omega⟩
  unfold spec_CmdFault.f cmdFault cmdFaultN
  simp only [spec_CmdFault.j0, spec_CmdFault.j1, spec_CmdFault.j2, spec_CmdFault.j3, spec_CmdFault.j4, spec_CmdFault.j5, spec_CmdFault.j6, decide_eq_true_eq, beq_iff_eq, if_true]
  by_cases h4 : c = 4
  · simp only [show (c < 0) = False from eq_false (by omega), show (c > 4) = False from eq_false (by omega), show (c = 0) = False from eq_false (by omega), show (c = 2) = False from eq_false (by omega), show (c = 4) = True from eq_true (by omega), show (c = 2 ∨ c = 4) = True from eq_true (by omega), show (1 ≤ c ∧ c ≤ 4) = True from eq_true (by omega), if_true, if_false, or_true, true_or, or_false, false_or, and_true, true_and]
    repeat' split
    all_goals first | rfl | omega
  by_cases h2 : c = 2
  · simp only [show (c < 0) = False from eq_false (by omega), show (c > 4) = False from eq_false (by omega), show (c = 0) = False from eq_false (by omega), show (c = 2) = True from eq_true (by omega), show (c = 4) = False from eq_false (by omega), show (c = 2 ∨ c = 4) = True from eq_true (by omega), show (1 ≤ c ∧ c ≤ 4) = True from eq_true (by omega), if_true, if_false, or_true, true_or, or_false, false_or, and_true, true_and]
    repeat' split
    all_goals first | rfl | omega
  by_cases h0 : c = 0
  · simp only [show (c < 0) = False from eq_false (by omega), show (c > 4) = False from eq_false (by omega), show (c = 0) = True from eq_true (by omega), show (c = 2) = False from eq_false (by omega), show (c = 4) = False from eq_false (by omega), show (c = 2 ∨ c = 4) = False from eq_false (by omega), show (1 ≤ c ∧ c ≤ 4) = False from eq_false (by omega), if_true, if_false, or_true, true_or, or_false, false_or, and_true, true_and]
    repeat' split
    all_goals first | rfl | omega
  by_cases hn : c < 0
  · simp only [show (c < 0) = True from eq_true (by omega), show (c > 4) = False from eq_false (by omega), show (c = 0) = False from eq_false (by omega), show (c = 2) = False from eq_false (by omega), show (c = 4) = False from eq_false (by omega), show (c = 2 ∨ c = 4) = False from eq_false (by omega), show (1 ≤ c ∧ c ≤ 4) = False from eq_false (by omega), if_true, if_false, or_true, true_or, or_false, false_or, and_true, true_and]
    repeat' split
    all_goals first | rfl | omega
  by_cases hg : c > 4
  · simp only [show (c < 0) = False from eq_false (by omega), show (c > 4) = True from eq_true (by omega), show (c = 0) = False from eq_false (by omega), show (c = 2) = False from eq_false (by omega), show (c = 4) = False from eq_false (by omega), show (c = 2 ∨ c = 4) = False from eq_false (by omega), show (1 ≤ c ∧ c ≤ 4) = False from eq_false (by omega), if_true, if_false, or_true, true_or, or_false, false_or, and_true, true_and]
    repeat' split
    all_goals first | rfl | omega
  · simp only [show (c < 0) = False from eq_false (by omega), show (c > 4) = False from eq_false (by omega), show (c = 0) = False from eq_false (by omega), show (c = 2) = False from eq_false (by omega), show (c = 4) = False from eq_false (by omega), show (c = 2 ∨ c = 4) = False from eq_false (by omega), show (1 ≤ c ∧ c ≤ 4) = True from eq_true (by omega), if_true, if_false, or_true, true_or, or_false, false_or, and_true, true_and]
    repeat' split
    all_goals first | rfl | omega

theorem szCmd_some (a b c : Int) (x y z : ByteArray) (n : Int) : ∃ r, laws_szCmd.f a b c x y z n = some r := by
  unfold laws_szCmd.f
  repeat' split
  all_goals exact ⟨_, rfl⟩

end Go.Proofs.Ytnbcpiaajckoaaa.Pure
