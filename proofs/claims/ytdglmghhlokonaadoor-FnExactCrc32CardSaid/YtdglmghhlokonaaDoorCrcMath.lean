/- Four steps of the bitwise checksum are one look into the table of sixteen words: plain facts about whole numbers, no program in sight. -/
import Derived.Test.YtdglmghhlokonaaDoorCrcWalk
namespace Go.Proofs.YtdglmghhlokonaaDoor.Mth
open Go.RowKit Go.Proofs.YtdglmghhlokonaaDoor.P

/-- One bit's step. -/
def bitN (r b : Nat) : Nat := if (r ^^^ b) % 2 = 1 then (r / 2) ^^^ 3988292384 else r / 2
def nibN : List Nat := [0, 498536548, 997073096, 651767980, 1994146192, 1802195444, 1303535960, 1342533948, 3988292384, 4027552580, 3604390888, 3412177804, 2607071920, 2262029012, 2685067896, 3183342108]
def step4 (r x : Nat) : Nat := bitN (bitN (bitN (bitN r x) (x / 2)) (x / 4)) (x / 8)
theorem xor_mod2 (a b : Nat) : (a ^^^ b) % 2 = (a % 2 + b % 2) % 2 := by
  have h : (a ^^^ b) % 2 = (a % 2) ^^^ (b % 2) := Nat.xor_mod_two_pow (a := a) (b := b) (n := 1)
  rw [h]
  rcases Nat.mod_two_eq_zero_or_one a with ha | ha <;> rcases Nat.mod_two_eq_zero_or_one b with hb | hb <;> rw [ha, hb] <;> rfl
theorem bitN_mod (r b c : Nat) (h : b % 2 = c % 2) : bitN r b = bitN r c := by
  unfold bitN
  rw [xor_mod2 r b, xor_mod2 r c, h]
theorem bitN_lin (r s b : Nat) (h : s % 2 = 0) : bitN (r ^^^ s) b = bitN r b ^^^ (s / 2) := by
  unfold bitN
  have e : ((r ^^^ s) ^^^ b) % 2 = (r ^^^ b) % 2 := by
    rw [xor_mod2, xor_mod2 r s, xor_mod2 r b]
    omega
  have e2 : (r ^^^ s) / 2 = r / 2 ^^^ s / 2 := by
    have := Nat.xor_div_two (a := r) (b := s)
    exact this
  rw [e, e2]
  split
  · rw [Nat.xor_assoc, Nat.xor_comm (s / 2), ← Nat.xor_assoc]
  · rfl
theorem step4_lin (r s x : Nat) (h : s % 16 = 0) : step4 (r ^^^ s) x = step4 r x ^^^ (s / 16) := by
  unfold step4
  rw [bitN_lin _ _ _ (by omega), bitN_lin _ _ _ (by omega), bitN_lin _ _ _ (by omega), bitN_lin _ _ _ (by omega)]
  congr 1
  omega
theorem step4_low : ∀ l, l < 16 → ∀ x, x < 16 → step4 l x = nibN.getD (l ^^^ x) 0 := by decide +kernel
theorem split16 (r : Nat) : (r % 16) ^^^ (16 * (r / 16)) = r := by
  apply Nat.eq_of_testBit_eq
  intro i
  have e : 16 * (r / 16) = 2 ^ 4 * (r / 2 ^ 4) := rfl
  have e1 : r % 16 = r % 2 ^ 4 := rfl
  rw [Nat.testBit_xor, e, e1, Nat.testBit_mod_two_pow, Nat.testBit_two_pow_mul, Nat.testBit_div_two_pow]
  by_cases hi : i < 4
  · have h4 : ¬ (4 ≤ i) := by omega
    simp [hi, h4]
  · have h4 : 4 ≤ i := by omega
    have e3 : i - 4 + 4 = i := by omega
    simp [hi, h4, e3]
theorem step4_eq (r x : Nat) : step4 r x = nibN.getD ((r ^^^ x) &&& 15) 0 ^^^ (r / 16) := by
  have hx : step4 r x = step4 r (x % 16) := by
    unfold step4
    rw [bitN_mod r x (x % 16) (by omega), bitN_mod _ (x / 2) (x % 16 / 2) (by omega), bitN_mod _ (x / 4) (x % 16 / 4) (by omega), bitN_mod _ (x / 8) (x % 16 / 8) (by omega)]
  rw [hx]
  conv => lhs; rw [← split16 r]
  rw [step4_lin _ _ _ (by omega), step4_low _ (by omega) _ (by omega)]
  have e1 : 16 * (r / 16) / 16 = r / 16 := by omega
  have e2 : (r ^^^ x) &&& 15 = (r % 16) ^^^ (x % 16) := by
    have h1 := Nat.and_two_pow_sub_one_eq_mod (r ^^^ x) 4
    have h2 := Nat.xor_mod_two_pow (a := r) (b := x) (n := 4)
    exact h1.trans h2
  rw [e1, e2]
theorem bitN_lt (r b : Nat) (h : r < 4294967296) : bitN r b < 4294967296 := by
  unfold bitN
  split
  · exact Nat.xor_lt_two_pow (n := 32) (by omega) (by omega)
  · omega
theorem step4_lt (r x : Nat) (h : r < 4294967296) : step4 r x < 4294967296 := by
  unfold step4
  exact bitN_lt _ _ (bitN_lt _ _ (bitN_lt _ _ (bitN_lt _ _ h)))
/-- A byte's step, in natural numbers. -/
def byteN (r b : Nat) : Nat := step4 (step4 r b) (b / 16)
theorem byteN_lt (r b : Nat) (h : r < 4294967296) : byteN r b < 4294967296 := step4_lt _ _ (step4_lt _ _ h)
theorem nib_nat : ∀ j, j < 16 → nib.getD j 0 = ((nibN.getD j 0 : Nat) : Int) := by decide +kernel
theorem nib_lt : ∀ j, j < 16 → nibN.getD j 0 < 4294967296 := by decide +kernel
theorem crcHalf_nat (r x : Nat) (hr : r < 4294967296) (hx : x < 4294967296) : crcHalf (r : Int) (x : Int) = ((step4 r x : Nat) : Int) := by
  have hj : (r ^^^ x) &&& 15 < 16 := by
    have h1 := Nat.and_two_pow_sub_one_eq_mod (r ^^^ x) 4
    have h2 : (r ^^^ x) &&& 15 = (r ^^^ x) % 16 := h1
    omega
  have h15 : (15 : Int) = ((15 : Nat) : Int) := rfl
  have h16 : (r : Int) / 16 = ((r / 16 : Nat) : Int) := by omega
  unfold crcHalf
  rw [u32_xor_nat r x hr hx, h15, u32_and_nat _ 15 (Nat.xor_lt_two_pow (n := 32) (by omega) (by omega)) (by omega), Int.toNat_natCast, nib_nat _ hj, h16, u32_xor_nat _ _ (nib_lt _ hj) (by omega), step4_eq]
theorem crcStep_nat (r b : Nat) (hr : r < 4294967296) (hb : b < 256) : crcStep (r : Int) (b : Int) = ((byteN r b : Nat) : Int) := by
  have e1 : (b : Int) % 4294967296 = ((b : Nat) : Int) := by omega
  have e2 : (b : Int) / 16 % 4294967296 = ((b / 16 : Nat) : Int) := by omega
  unfold crcStep byteN
  rw [e1, e2, crcHalf_nat r b hr (by omega), crcHalf_nat _ _ (step4_lt _ _ hr) (by omega)]
end Go.Proofs.YtdglmghhlokonaaDoor.Mth
