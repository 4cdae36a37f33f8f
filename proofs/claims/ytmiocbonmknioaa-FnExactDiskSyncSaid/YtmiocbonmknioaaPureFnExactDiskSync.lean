/- For every disk the program's DiskSync is the reference's, writes into no argument and hands out new memory. -/
import Derived.Test.YtmiocbonmknioaaExact
import Derived.Test.YtmiocbonmknioaaPx13
import Derived.Test.YtmiocbonmknioaaPx14
import Derived.Test.YtmiocbonmknioaaPx15
namespace Go.Proofs.Ytmiocbonmknioaa.Pure
open Go.RowKit Go.Proofs.Ytmiocbonmknioaa.P Go.Proofs.Ytmiocbonmknioaa.Mth Go.Proofs.YtmiocbonmknioaaW.PrintWords

theorem DiskSync_ok (a b : Int) (l : List Int) (hl : l.length ≤ 1048576) : ∃ (a' b' : Int) (l' : List Int), l'.length ≤ 1048576 ∧ impl_DiskSync.f a b l = some (a', b', l') ∧ ∀ k, 1048576 < k → spec_DiskSync.f k a b l = some (a', b', l') := by
  cases h : diskOk a b l with
  | true =>
    refine ⟨a, l.length, l, hl, ?_, fun k hk => ?_⟩
    · unfold impl_DiskSync.f impl_Disk_copied.f
      rw [impl_diskOk_eq, h, clone_ok l (by omega)]
      simp
    · unfold spec_DiskSync.f spec_l2diskCopy.f
      rw [spec_diskOk_eq, h, l1copy_ok l (by omega) k (by omega)]
      simp
  | false =>
    refine ⟨0, 0, [], by simp, ?_, fun k _ => ?_⟩
    · unfold impl_DiskSync.f
      rw [impl_diskOk_eq, h]
      simp
    · unfold spec_DiskSync.f
      rw [spec_diskOk_eq, h]
      simp

theorem FnExactDiskSync : laws_FnExactDiskSync.Pure := by
  intro a b l _ _ hl
  refine ⟨1048579, ?_⟩
  obtain ⟨r, hr⟩ := szDisk_some a b l 1048576
  unfold laws_FnExactDiskSync.f
  rw [hr]
  simp only [Option.bind_some]
  by_cases h0 : r < 0
  · rw [if_pos h0]
  · rw [if_neg h0]
    have hs := szDisk_small a b l hl.1 hr h0
    obtain ⟨a', b', l', hl', hi, hsp⟩ := DiskSync_ok a b l hs
    have m1 : laws_markDisk.f 1048579 a b l 1 = _ := markDisk_ok a b l 1 (by omega) (by omega)
    have m2 : laws_markDisk.f 1048578 a' b' l' 1 = _ := markDisk_ok a' b' l' 1 (by omega) (by omega)
    have hh : laws_heldDisk.f 1048578 a' b' (fresh (marksB 1) l' l'.length) 1 = _ := heldDisk_ok a' b' l' 1 (by omega) (by omega)
    rw [toDisk_ok a b l (by omega) (by omega)]
    simp only [Option.bind_some]
    rw [hsp 1048579 (by omega)]
    simp only [Option.bind_some]
    rw [hi]
    simp only [Option.bind_some]
    rw [eqDisk_ok a' b' l' (by omega) (by omega), eqDisk_ok a b l (by omega) (by omega), m1]
    simp only [Option.bind_some, if_true]
    rw [if_neg (by omega)]
    simp only [laws_FnExactDiskSync.j0, Bool.not_true, if_neg (show ¬ (false = true) by decide)]
    rw [m2]
    simp only [Option.bind_some]
    rw [hh]
    simp only [Option.bind_some]
    rw [if_neg (by omega)]
    simp only [if_true]
    rw [toDisk_ok a b l (by omega) (by omega)]
    simp only [Option.bind_some]
    rw [hi]
    simp only [Option.bind_some]
    rw [eqDisk_ok a' b' l' (by omega) (by omega)]
    simp only [Option.bind_some, if_true]
    rw [if_neg (by omega)]
end Go.Proofs.Ytmiocbonmknioaa.Pure
