/- The laws' helpers on byte slices (copy, compare, mark, hold) and the reference's copy, each with its answer. -/
import Derived.Test.YtmiocbonmknioaaBase
import Derived.Test.YtmiocbonmknioaaPx13
import Derived.Test.YtmiocbonmknioaaPx14
import Derived.Test.YtmiocbonmknioaaPx15
import Derived.Test.YtmiocbonmknioaaPx17
namespace Go.Proofs.Ytmiocbonmknioaa.Pure
open Go.RowKit Go.Proofs.Ytmiocbonmknioaa.P Go.Proofs.Ytmiocbonmknioaa.Mth Go.Proofs.YtmiocbonmknioaaW.PrintWords

theorem toByteS_ok (l : List Int) (hl : l.length ≤ 281474976710656) : ∀ k, l.length < k → laws_toByteS.f k l = some l := by
  intro k hk
  unfold laws_toByteS.f
  rw [if_pos (by omega), if_pos (by omega)]
  have h := loop_up (fun k (s : List Int × Int) => laws_toByteS.l0 k l s.1 s.2) l.length (fun i => (l.take i ++ List.replicate (l.length - i) 0, (i : Int))) l (fun i hi k => by
    simp only [laws_toByteS.l0]
    rw [if_pos (by omega), if_pos (by omega), if_pos (by rw [List.length_append, List.length_take, List.length_replicate]; omega), wrap_succ (by omega)]
    simp only [rd, Int.toNat_natCast]
    rw [set_fill l 0 0 hi]) (fun k => by
    simp only [laws_toByteS.l0]
    rw [if_neg (by omega), List.take_length, Nat.sub_self, List.replicate_zero, List.append_nil]) k hk
  simpa using h

theorem eqByteS_ok (l : List Int) (hl : l.length ≤ 281474976710656) : ∀ k, l.length < k → laws_eqByteS.f k l l = some true := by
  intro k hk
  unfold laws_eqByteS.f
  rw [if_pos rfl]
  exact loop_up (fun k (s : Int) => laws_eqByteS.l0 k l l s) l.length (fun i => (i : Int)) true (fun i hi k => by
    simp only [laws_eqByteS.l0]
    rw [if_pos (by omega), if_pos (by omega), if_pos (by omega), if_pos trivial, wrap_succ (by omega)]) (fun k => by
    simp only [laws_eqByteS.l0]
    rw [if_neg (by omega)]) k hk

def marksB (n : Nat) (j : Nat) : Int := ((n + j : Nat) : Int) % 256

theorem markByteS_ok (l : List Int) (n : Nat) (hl : l.length + n ≤ 281474976710656) : ∀ k, l.length < k →
    laws_markByteS.f k l n = some (((n + l.length : Nat) : Int), fresh (marksB n) l l.length) := by
  intro k hk
  unfold laws_markByteS.f
  have h := loop_up (fun k (s : List Int × Int × Int) => laws_markByteS.l0 k s.1 s.2.1 s.2.2) l.length (fun i => (fresh (marksB n) l i, ((n + i : Nat) : Int), (i : Int))) (((n + l.length : Nat) : Int), fresh (marksB n) l l.length) (fun i hi k => by
    simp only [laws_markByteS.l0]
    rw [if_pos (by rw [fresh_len _ _ (by omega)]; omega), if_pos (by omega), wrap_succ (by omega), wrap_succ (by omega), Int.toNat_natCast]
    rw [show ((n + i : Nat) : Int) % 256 = marksB n i from rfl, fresh_set _ _ hi]
    rfl) (fun k => by
    simp only [laws_markByteS.l0]
    rw [if_neg (by rw [fresh_len _ _ (Nat.le_refl _)]; omega)]) k hk
  simp only [fresh_zero, Nat.add_zero] at h
  exact h

theorem heldByteS_ok (l : List Int) (n : Nat) (hl : l.length + n ≤ 281474976710656) : ∀ k, l.length < k →
    laws_heldByteS.f k (fresh (marksB n) l l.length) n = some ((n + l.length : Nat) : Int) := by
  intro k hk
  unfold laws_heldByteS.f
  have h := loop_up (fun k (s : Int × Int) => laws_heldByteS.l0 k (fresh (marksB n) l l.length) s.1 s.2) l.length (fun i => (((n + i : Nat) : Int), (i : Int))) (((n + l.length : Nat) : Int)) (fun i hi k => by
    simp only [laws_heldByteS.l0]
    rw [if_pos (by rw [fresh_len _ _ (Nat.le_refl _)]; omega), if_pos (by omega), if_pos (by
      unfold rd
      rw [Int.toNat_natCast, fresh_get _ _ hi]
      rfl), wrap_succ (by omega), wrap_succ (by omega)]
    rfl) (fun k => by
    simp only [laws_heldByteS.l0]
    rw [if_neg (by rw [fresh_len _ _ (Nat.le_refl _)]; omega)]) k hk
  simpa using h

theorem l1copy_ok (l : List Int) (hl : l.length < 140737488355328) : ∀ k, l.length < k → spec_l1copy.f k l = some l := by
  intro k hk
  unfold spec_l1copy.f
  have h := loop_up (fun k (s : List Int × Int) => spec_l1copy.l0 k l s.1 s.2) l.length (fun i => (l.take i, (i : Int))) l (fun i hi k => by
    simp only [spec_l1copy.l0]
    rw [if_pos (by omega), if_pos (by omega), if_pos (by rw [List.length_take]; omega), wrap_succ (by omega)]
    simp only [rd, Int.toNat_natCast]
    rw [take_snoc l 0 hi]) (fun k => by
    simp only [spec_l1copy.l0]
    rw [if_neg (by omega), List.take_length]) k hk
  simpa using h
end Go.Proofs.Ytmiocbonmknioaa.Pure
