/- For every disk and every kept count the program's DiskCrash is the reference's, writes into no argument and hands out new memory. -/
import Derived.Test.YtmiocbonmknioaaExact
import Derived.Test.YtmiocbonmknioaaPx20
import Derived.Test.YtmiocbonmknioaaPx21
namespace Go.Proofs.Ytmiocbonmknioaa.Pure
open Go.RowKit Go.Proofs.Ytmiocbonmknioaa.P Go.Proofs.Ytmiocbonmknioaa.Mth Go.Proofs.YtmiocbonmknioaaW.PrintWords Go.Proofs.YtmiocbonmknioaaW.PrintMore

/-- How much of the disk stays: what was kept and at most so many of the rest. -/
def kept (b : Int) (n c : Int) : Int := b + (if (if c < 0 then 0 else c) < n - b then (if c < 0 then 0 else c) else n - b)
theorem kept_in {b n : Int} (c : Int) (h0 : 0 ≤ b) (h1 : b ≤ n) : 0 ≤ kept b n c ∧ kept b n c ≤ n := by
  unfold kept
  repeat' split
  all_goals omega

theorem DiskCrash_ok (a b : Int) (l : List Int) (c : Int) (hl : l.length ≤ 1048576) : ∃ (a' b' : Int) (l' : List Int), l'.length ≤ 1048576 ∧ impl_DiskCrash.f a b l c = some (a', b', l') ∧ ∀ k, 1048576 < k → spec_DiskCrash.f k a b l c = some (a', b', l') := by
  cases h : diskOk a b l with
  | true =>
    have hb := diskOk_len h
    have hk := kept_in c hb.2.2.2.1 hb.2.2.2.2
    have ht : (l.take (kept b l.length c).toNat).length ≤ 1048576 := by rw [List.length_take]; omega
    refine ⟨a, b, l.take (kept b l.length c).toNat, ht, ?_, fun k hk' => ?_⟩
    · have e : wrap64 (b + mn (mx c 0) (wrap64 ((l.length : Int) - b))) = kept b l.length c := by
        rw [wrap64_id (x := (l.length : Int) - b) (by omega) (by omega)]
        have e1 : b + mn (mx c 0) ((l.length : Int) - b) = kept b l.length c := by
          unfold kept mn mx
          repeat' split
          all_goals omega
        rw [e1]
        exact wrap64_id (by omega) (by omega)
      unfold impl_DiskCrash.f impl_Disk_copied.f
      rw [impl_diskOk_eq, h, e, clone_ok _ (by omega)]
      simp only [Option.bind_some, if_true]
      rw [if_pos (by omega), if_pos (by omega)]
    · have e : ∀ x y, spec_l1max.f c 0 = some x → spec_l1min.f x (wrap64 ((l.length : Int) - b)) = some y → wrap64 (b + y) = kept b l.length c := by
        intro x y hx hy
        rw [wrap64_id (x := (l.length : Int) - b) (by omega) (by omega)] at hy
        have e1 : b + y = kept b l.length c := by
          unfold spec_l1max.f at hx
          unfold spec_l1min.f at hy
          unfold kept
          split at hx <;> injection hx with hx <;> subst hx <;> split at hy <;> injection hy with hy <;> subst hy
          all_goals (repeat' split)
          all_goals omega
        rw [e1]
        exact wrap64_id (by omega) (by omega)
      obtain ⟨x, hx⟩ : ∃ x, spec_l1max.f c 0 = some x := by unfold spec_l1max.f; split <;> exact ⟨_, rfl⟩
      obtain ⟨y, hy⟩ : ∃ y, spec_l1min.f x (wrap64 ((l.length : Int) - b)) = some y := by unfold spec_l1min.f; split <;> exact ⟨_, rfl⟩
      unfold spec_DiskCrash.f
      rw [spec_diskOk_eq, h]
      simp only [Option.bind_some, if_true]
      rw [hx]
      simp only [Option.bind_some]
      rw [hy]
      simp only [Option.bind_some]
      rw [e x y hx hy, if_pos (by omega), if_pos (by omega), l1copy_ok _ (by omega) k (by omega)]
      rfl
  | false =>
    refine ⟨0, 0, [], by simp, ?_, fun k _ => ?_⟩
    · unfold impl_DiskCrash.f
      rw [impl_diskOk_eq, h]
      simp
    · unfold spec_DiskCrash.f
      rw [spec_diskOk_eq, h]
      simp

theorem FnExactDiskCrash : laws_FnExactDiskCrash.Pure := by
  intro a b l c _ _ hl _
  refine ⟨1048579, ?_⟩
  obtain ⟨r, hr⟩ := szDisk_some a b l 1048576
  unfold laws_FnExactDiskCrash.f
  rw [hr]
  simp only [Option.bind_some]
  by_cases h0 : r < 0
  · rw [if_pos h0]
  · rw [if_neg h0]
    have hs := szDisk_small a b l hl.1 hr h0
    obtain ⟨a', b', l', hl', hi, hsp⟩ := DiskCrash_ok a b l c hs
    have m1 : laws_markDisk.f 1048579 a b l 1 = _ := markDisk_ok a b l 1 (by omega) (by omega)
    have m2 : laws_markDisk.f 1048578 a' b' l' 1 = _ := markDisk_ok a' b' l' 1 (by omega) (by omega)
    have hh : laws_heldDisk.f 1048578 a' b' (fresh (marksB 1) l' l'.length) 1 = _ := heldDisk_ok a' b' l' 1 (by omega) (by omega)
    rw [toDisk_ok a b l (by omega) (by omega)]
    simp only [Option.bind_some]
    rw [hsp 1048579 (by omega)]
    simp only [Option.bind_some]
    rw [hi]
    simp only [Option.bind_some]
    rw [eqDisk_ok a' b' l' (by omega) (by omega), eqDisk_ok a b l (by omega) (by omega), m1]
    simp only [Option.bind_some, if_true]
    rw [if_neg (by omega)]
    simp only [laws_FnExactDiskCrash.j0, Bool.not_true, if_neg (show ¬ (false = true) by decide)]
    rw [m2]
    simp only [Option.bind_some]
    rw [hh]
    simp only [Option.bind_some]
    rw [if_neg (by omega)]
    simp only [if_true]
    rw [toDisk_ok a b l (by omega) (by omega)]
    simp only [Option.bind_some]
    rw [hi]
    simp only [Option.bind_some]
    rw [eqDisk_ok a' b' l' (by omega) (by omega)]
    simp only [Option.bind_some, if_true]
    rw [if_neg (by omega)]
end Go.Proofs.Ytmiocbonmknioaa.Pure
