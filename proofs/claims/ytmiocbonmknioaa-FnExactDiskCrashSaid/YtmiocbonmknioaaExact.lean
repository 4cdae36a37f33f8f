/- The frame that the laws 'the program answers as the reference' share over byte slices. -/
import Derived.Test.YtmiocbonmknioaaBytes
import Derived.Test.YtmiocbonmknioaaPx13
import Derived.Test.YtmiocbonmknioaaPx17
import Derived.Test.YtmiocbonmknioaaPx18
import Derived.Test.YtmiocbonmknioaaFaults
namespace Go.Proofs.Ytmiocbonmknioaa.Pure
open Go.RowKit Go.Proofs.Ytmiocbonmknioaa.P Go.Proofs.Ytmiocbonmknioaa.Mth Go.Proofs.YtmiocbonmknioaaW.PrintWords

theorem szDisk_some (a b : Int) (l : List Int) (n : Int) : ∃ r, laws_szDisk.f a b l n = some r := by
  unfold laws_szDisk.f laws_szByteS.f
  split <;> simp only [Option.bind_some] <;> split <;> exact ⟨_, rfl⟩
/-- What the laws' measure lets by. -/
theorem szDisk_small (a b : Int) (l : List Int) (hl : l.length ≤ maxLen) {r : Int} (h : laws_szDisk.f a b l 1048576 = some r) (h0 : ¬ r < 0) : l.length ≤ 1048576 := by
  unfold maxLen at hl
  unfold laws_szDisk.f laws_szByteS.f at h
  rw [wrap64_id (by omega) (by omega)] at h
  by_cases hc : (1048576 : Int) - (l.length : Int) < 0
  · rw [if_pos hc] at h
    simp only [Option.bind_some, show ((-1 : Int) < 0) = True from eq_true (by decide), if_true, Option.some.injEq] at h
    omega
  · omega
theorem toDisk_ok (a b : Int) (l : List Int) (hl : l.length ≤ 281474976710656) {k : Nat} (hk : l.length < k) : laws_toDisk.f k a b l = some (a, b, l) := by
  unfold laws_toDisk.f
  rw [toByteS_ok l hl k hk]
  rfl
theorem eqDisk_ok (a b : Int) (l : List Int) (hl : l.length ≤ 281474976710656) {k : Nat} (hk : l.length < k) : laws_eqDisk.f k a b l a b l = some true := by
  unfold laws_eqDisk.f
  rw [if_pos rfl, if_pos rfl, eqByteS_ok l hl k hk]
  rfl
theorem markDisk_ok (a b : Int) (l : List Int) (n : Nat) (hl : l.length + n ≤ 281474976710656) {k : Nat} (hk : l.length < k) : laws_markDisk.f k a b l n = some (((n + l.length : Nat) : Int), fresh (marksB n) l l.length) := by
  unfold laws_markDisk.f
  rw [markByteS_ok l n hl k hk]
  rfl
theorem heldDisk_ok (a b : Int) (l : List Int) (n : Nat) (hl : l.length + n ≤ 281474976710656) {k : Nat} (hk : l.length < k) : laws_heldDisk.f k a b (fresh (marksB n) l l.length) n = some ((n + l.length : Nat) : Int) := by
  unfold laws_heldDisk.f
  rw [heldByteS_ok l n hl k hk]
  simp only [Option.bind_some]
  rw [if_neg (by omega)]
theorem clone_ok (l : List Int) (hl : l.length < 140737488355328) : slices_Clone_byte_byte.f l = some l := by
  unfold slices_Clone_byte_byte.f
  simp only [Option.bind_some, List.length_nil, List.nil_append, Nat.zero_add]
  rw [if_pos hl]

def diskOk (a b : Int) (l : List Int) : Bool := decide (0 ≤ a ∧ a ≤ 1048576) && (decide ((l.length : Int) ≤ a) && decide (0 ≤ b ∧ b ≤ (l.length : Int)))
theorem spec_diskOk_eq (a b : Int) (l : List Int) : spec_l2diskOk.f a b l = some (diskOk a b l) := by
  unfold spec_l2diskOk.f diskOk
  simp only [l1in_eq, Option.bind_some, decide_eq_true_eq]
  by_cases h1 : 0 ≤ a ∧ a ≤ 1048576 <;> by_cases h2 : (l.length : Int) ≤ a <;> simp [h1, h2]
theorem impl_diskOk_eq (a b : Int) (l : List Int) : impl_Disk_wellFormed.f a b l = some (diskOk a b l) := by
  unfold impl_Disk_wellFormed.f diskOk
  simp only [within_eq, Option.bind_some, decide_eq_true_eq]
  by_cases h1 : 0 ≤ a ∧ a ≤ 1048576 <;> by_cases h2 : (l.length : Int) ≤ a <;> simp [h1, h2]
theorem diskOk_len {a b : Int} {l : List Int} (h : diskOk a b l = true) : 0 ≤ a ∧ (l.length : Int) ≤ a ∧ a ≤ 1048576 ∧ 0 ≤ b ∧ b ≤ (l.length : Int) := by
  unfold diskOk at h
  simp only [Bool.and_eq_true, decide_eq_true_eq] at h
  omega
end Go.Proofs.Ytmiocbonmknioaa.Pure
