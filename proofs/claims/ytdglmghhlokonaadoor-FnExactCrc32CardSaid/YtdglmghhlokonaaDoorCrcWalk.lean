/- The walk of the program's Crc32: where the table of sixteen words is laid, the call returns the fold of its byte step over the bytes, and changes no memory. -/
import Derived.Test.YtdglmghhlokonaaDoorProg
import Derived.Test.YtdglmghhlokonaaDoorPack
import Derived.Test.YtdglmghhlokonaaDoorBase
import Derived.Laws.BitsAllLaws
namespace Go.Proofs.YtdglmghhlokonaaDoor.P
open Go.RowKit Go.Proofs.YtdglmghhlokonaaDoorW.PrintWords Go.Proofs.YtdglmghhlokonaaDoorW.PrintLast Go.Proofs.YtdglmghhlokonaaDoorW.PrintMore
set_option linter.unusedVariables false
set_option linter.unusedSimpArgs false
/-- The table. -/
def nib : List Int := [0, 498536548, 997073096, 651767980, 1994146192, 1802195444, 1303535960, 1342533948, 3988292384, 4027552580, 3604390888, 3412177804, 2607071920, 2262029012, 2685067896, 3183342108]
/-- The table's cells, as they are laid. -/
def Nib (w : World) : Prop := ∀ i : Nat, i < 16 → w.cell? ⟨0, i, none⟩ = some (.int .u32 (nib.getD i 0))
/-- Half a byte's step. -/
def crcHalf (r x : Int) : Int := Go.bits .xor .u32 (nib.getD (Go.bits .and .u32 (Go.bits .xor .u32 r x) 15).toNat 0) (r / 16)
/-- A byte's step. -/
def crcStep (r b : Int) : Int := crcHalf (crcHalf r (b % 4294967296)) ((b / 16) % 4294967296)
def impl_Crc32.f (l : List Int) : Option Int := if l.length ≤ 281474976710656 then some (Go.bits .xor .u32 IntKind.u32.max (l.foldl crcStep 4294967295)) else none
theorem and15 (x : Int) : 0 ≤ Go.bits .and .u32 x 15 ∧ Go.bits .and .u32 x 15 < 16 := by
  have h : (BitVec.ofInt 32 x &&& BitVec.ofInt 32 15).toNat ≤ 15 := by
    rw [BitVec.toNat_and]
    exact Nat.le_trans Nat.and_le_right (by decide)
  have e : Go.bits .and .u32 x 15 = ((BitVec.ofInt 32 x &&& BitVec.ofInt 32 15).toNat : Int) := by
    show IntKind.u32.wrap ((BitVec.ofInt 32 x &&& BitVec.ofInt 32 15).toNat : Int) = _
    rw [IntKind.wrap_u32']
    omega
  rw [e]
  omega
theorem Nib.below {w W : World} (h : Nib w) (hb : Below w.heap.size w W) : Nib W := fun i hi => pw_cell_below hb (h i hi)
/-- The table, at a later world. -/
theorem nib_of {w W W' : World} (NB : Aside0 (Nib w)) (HB : Aside0 (Below w.heap.size w W))
    (k : Below w.heap.size w W → Below w.heap.size w W' := by
      intro h_
      repeat (first | (with_reducible first | exact h_ | apply below_alloc | apply pw_below_drewN | apply below_drew1 | refine below_set2 ?_ (by assumption)) | exact h_)) : Nib W' := NB.out.below (k HB.out)
theorem nib_drew {w : World} (NB : Aside0 (Nib w)) (n : Nat) : Nib (w.drewN n) := NB.out
set_option maxHeartbeats 8000000 in
set_option maxRecDepth 100000 in
theorem impl_Crc32.calls (A0 : Option Addr) (c0 : Nat) (l0 : List Int) (r : Int) (w : World) (hr0 : Kd.C (Kd.int .u8) w A0 l0.length l0) (hc0 : l0.length ≤ c0) (h : impl_Crc32.f l0 = some r) (nb : Nib w := by first | exact nib_of (by assumption) (by assumption) | exact Aside0.out (by assumption) | exact nib_drew (by assumption) _) :
    Calls Tryd.prog 6 #[.slice A0 l0.length c0] w fun e w' => e = .returned (.int .u32 r) ∧ Drawn0 w w' := by
  unfold impl_Crc32.f at h
  by_cases hl : l0.length ≤ 281474976710656
  rotate_left
  · rw [if_neg hl] at h; cases h
  rw [if_pos hl] at h
  have hE := Option.some.inj h
  clear h
  have HR0 := Aside0.mk hr0
  have HC0 := Aside0.mk hc0
  have NB := Aside0.mk nb
  clear hr0 hc0 nb
  go_enter Tryd.func6, Tryd.ntmps6
  go_wp2
  go_loopg [3, 8] l0.length (fun kq v3 v8 w' => ∃ (x3 x8 : Int), v3 = .int .u32 x3 ∧ v8 = .int .i64 x8 ∧ Aside0 (0 ≤ x8 ∧ x8.toNat + kq = l0.length ∧ (l0.take x8.toNat).foldl crcStep 4294967295 = x3) ∧ Drawn0 w w')
  case atStart => exact ⟨4294967295, 0, by simp, by simp, ⟨by simp⟩, by repeat (first | exact Drawn0.refl _ | apply Drawn0.step)⟩
  case round =>
    obtain ⟨x3, x8, rfl, rfl, HI, ⟨m1, rfl⟩⟩ := hrel
    by_cases c2 : x8 < (l0.length : Int)
    · have c2b0 : decide (x8 < (l0.length : Int)) = true := decide_eq_true c2
      have p101 : 0 ≤ x8 := HI.out.1
      have q101 : x8 < (l0.length : Int) := c2
      obtain ⟨ad101, e101, hx101_0⟩ := Kd.at_int HR0.out x8 p101 q101
      cases e101
      replace p101 := eq_true p101
      replace q101 := eq_true q101
      obtain ⟨j1, hj1⟩ : ∃ j, Go.bits .and .u32 (Go.bits .xor .u32 x3 (rd l0 x8 % 4294967296)) 15 = j := ⟨_, rfl⟩
      obtain ⟨p1, q1⟩ := hj1 ▸ and15 (Go.bits .xor .u32 x3 (rd l0 x8 % 4294967296))
      have hn1 := NB.out j1.toNat (by omega)
      replace p1 := eq_true p1
      replace q1 := eq_true q1
      obtain ⟨v1, hv1⟩ : ∃ v, nib.getD j1.toNat 0 = v := ⟨_, rfl⟩
      rw [hv1] at hn1
      obtain ⟨r1, hr1⟩ : ∃ v, Go.bits .xor .u32 v1 (x3 / 16) = v := ⟨_, rfl⟩
      obtain ⟨j2, hj2⟩ : ∃ j, Go.bits .and .u32 (Go.bits .xor .u32 r1 (rd l0 x8 / 16 % 4294967296)) 15 = j := ⟨_, rfl⟩
      obtain ⟨p2, q2⟩ := hj2 ▸ and15 (Go.bits .xor .u32 r1 (rd l0 x8 / 16 % 4294967296))
      have hn2 := NB.out j2.toNat (by omega)
      replace p2 := eq_true p2
      replace q2 := eq_true q2
      clear c2
      go_wp2
      go_roundg (l0.length - x8.toNat - 1)
      case measure => 
        have h8 := of_decide_eq_true c2b0
        have := HI.out
        omega
      case rel => 
        have h8 := of_decide_eq_true c2b0
        obtain ⟨h9, h10, h11⟩ := HI.out
        have e1 : wrap64 (x8 + 1) = x8 + 1 := Mth.wrap64_id (by omega) (by omega)
        have e2 : (x8 + 1).toNat = x8.toNat + 1 := by omega
        refine ⟨_, _, rfl, rfl, ⟨?_, ?_, ?_⟩, by repeat (first | exact Drawn0.refl _ | apply Drawn0.step)⟩
        · rw [e1]; omega
        · rw [e1, e2]; omega
        · rw [e1, e2, ← Mth.take_snoc l0 0 (by omega), List.foldl_append, h11]
          have e3 : l0.getD x8.toNat 0 = rd l0 x8 := rfl
          simp only [List.foldl_cons, List.foldl_nil, e3, crcStep, crcHalf, hj1, hv1, hr1, hj2]
          rfl
    · have c2b0 : decide (x8 < (l0.length : Int)) = false := decide_eq_false c2
      have HI' := HI.out
      have e : (l0.take x8.toNat) = l0 := List.take_of_length_le (by omega)
      replace HI' := HI'.2.2
      rw [e] at HI'
      clear c2 e
      go_wp2
      go_ret
      exact ⟨by rw [← hE, ← HI']; rfl, by repeat (first | exact Drawn0.refl _ | apply Drawn0.step)⟩
end Go.Proofs.YtdglmghhlokonaaDoor.P
