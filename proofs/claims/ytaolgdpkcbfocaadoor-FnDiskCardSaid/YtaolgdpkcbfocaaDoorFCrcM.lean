/- Four steps of the bitwise checksum are one look into the table of sixteen words: plain facts about whole numbers, and the same as the walk tells them. -/
import Derived.Test.YtaolgdpkcbfocaaDoorFBase
import Derived.Laws.BitsAllLaws
namespace Go.Proofs.YtaolgdpkcbfocaaDoorA
open Go.Proofs
set_option autoImplicit false
set_option linter.unusedVariables false
/-- One bit's step. -/
def bitN (r b : Nat) : Nat := if (r ^^^ b) % 2 = 1 then (r / 2) ^^^ 3988292384 else r / 2
def nibN : List Nat := [0, 498536548, 997073096, 651767980, 1994146192, 1802195444, 1303535960, 1342533948, 3988292384, 4027552580, 3604390888, 3412177804, 2607071920, 2262029012, 2685067896, 3183342108]
def step4 (r x : Nat) : Nat := bitN (bitN (bitN (bitN r x) (x / 2)) (x / 4)) (x / 8)
theorem xor_mod2 (a b : Nat) : (a ^^^ b) % 2 = (a % 2 + b % 2) % 2 := by
  have h : (a ^^^ b) % 2 = (a % 2) ^^^ (b % 2) := Nat.xor_mod_two_pow (a := a) (b := b) (n := 1)
  rw [h]
  rcases Nat.mod_two_eq_zero_or_one a with ha | ha <;> rcases Nat.mod_two_eq_zero_or_one b with hb | hb <;> rw [ha, hb] <;> rfl
theorem bitN_mod (r b c : Nat) (h : b % 2 = c % 2) : bitN r b = bitN r c := by
  unfold bitN
  rw [xor_mod2 r b, xor_mod2 r c, h]
theorem bitN_lin (r s b : Nat) (h : s % 2 = 0) : bitN (r ^^^ s) b = bitN r b ^^^ (s / 2) := by
  unfold bitN
  have e : ((r ^^^ s) ^^^ b) % 2 = (r ^^^ b) % 2 := by
    rw [xor_mod2, xor_mod2 r s, xor_mod2 r b]
    omega
  have e2 : (r ^^^ s) / 2 = r / 2 ^^^ s / 2 := by
    have := Nat.xor_div_two (a := r) (b := s)
    exact this
  rw [e, e2]
  split
  · rw [Nat.xor_assoc, Nat.xor_comm (s / 2), ← Nat.xor_assoc]
  · rfl
theorem step4_lin (r s x : Nat) (h : s % 16 = 0) : step4 (r ^^^ s) x = step4 r x ^^^ (s / 16) := by
  unfold step4
  rw [bitN_lin _ _ _ (by omega), bitN_lin _ _ _ (by omega), bitN_lin _ _ _ (by omega), bitN_lin _ _ _ (by omega)]
  congr 1
  omega
theorem step4_low : ∀ l, l < 16 → ∀ x, x < 16 → step4 l x = nibN.getD (l ^^^ x) 0 := by decide +kernel
theorem split16 (r : Nat) : (r % 16) ^^^ (16 * (r / 16)) = r := by
  apply Nat.eq_of_testBit_eq
  intro i
  have e : 16 * (r / 16) = 2 ^ 4 * (r / 2 ^ 4) := rfl
  have e1 : r % 16 = r % 2 ^ 4 := rfl
  rw [Nat.testBit_xor, e, e1, Nat.testBit_mod_two_pow, Nat.testBit_two_pow_mul, Nat.testBit_div_two_pow]
  by_cases hi : i < 4
  · have h4 : ¬ (4 ≤ i) := by omega
    simp [hi, h4]
  · have h4 : 4 ≤ i := by omega
    have e3 : i - 4 + 4 = i := by omega
    simp [hi, h4, e3]
theorem step4_eq (r x : Nat) : step4 r x = nibN.getD ((r ^^^ x) &&& 15) 0 ^^^ (r / 16) := by
  have hx : step4 r x = step4 r (x % 16) := by
    unfold step4
    rw [bitN_mod r x (x % 16) (by omega), bitN_mod _ (x / 2) (x % 16 / 2) (by omega), bitN_mod _ (x / 4) (x % 16 / 4) (by omega), bitN_mod _ (x / 8) (x % 16 / 8) (by omega)]
  rw [hx]
  conv => lhs; rw [← split16 r]
  rw [step4_lin _ _ _ (by omega), step4_low _ (by omega) _ (by omega)]
  have e1 : 16 * (r / 16) / 16 = r / 16 := by omega
  have e2 : (r ^^^ x) &&& 15 = (r % 16) ^^^ (x % 16) := by
    have h1 := Nat.and_two_pow_sub_one_eq_mod (r ^^^ x) 4
    have h2 := Nat.xor_mod_two_pow (a := r) (b := x) (n := 4)
    exact h1.trans h2
  rw [e1, e2]
theorem bitN_lt (r b : Nat) (h : r < 4294967296) : bitN r b < 4294967296 := by
  unfold bitN
  split
  · exact Nat.xor_lt_two_pow (n := 32) (by omega) (by omega)
  · omega
theorem step4_lt (r x : Nat) (h : r < 4294967296) : step4 r x < 4294967296 := by
  unfold step4
  exact bitN_lt _ _ (bitN_lt _ _ (bitN_lt _ _ (bitN_lt _ _ h)))
/-- A byte's step, in natural numbers. -/
def byteN (r b : Nat) : Nat := step4 (step4 r b) (b / 16)
theorem byteN_lt (r b : Nat) (h : r < 4294967296) : byteN r b < 4294967296 := step4_lt _ _ (step4_lt _ _ h)
theorem nib_nat : ∀ j, j < 16 → nibL.getD j 0 = ((nibN.getD j 0 : Nat) : Int) := by decide +kernel
theorem nib_lt : ∀ j, j < 16 → nibN.getD j 0 < 4294967296 := by decide +kernel
theorem nib_half (r x : Nat) : nibN.getD ((r ^^^ x) &&& 15) 0 ^^^ (r / 16) = step4 r x := (step4_eq r x).symm
theorem and15 (r x : Nat) : (r ^^^ x) &&& 15 < 16 := by
  have h1 := Nat.and_two_pow_sub_one_eq_mod (r ^^^ x) 4
  have h2 : (r ^^^ x) &&& 15 = (r ^^^ x) % 16 := h1
  omega
/-- The checksum of bytes, and what it is turned into at the end. -/
def crcG (bs : List Int) : Nat := bs.foldl (fun r b => byteN r b.toNat) 4294967295
def crcF (bs : List Int) : Int := ((crcG bs ^^^ 4294967295 : Nat) : Int)
theorem crc_lt : ∀ (bs : List Int) (r : Nat), r < 4294967296 → bs.foldl (fun r b => byteN r b.toNat) r < 4294967296
  | [], r, h => h
  | b :: bs, r, h => crc_lt bs _ (byteN_lt _ _ h)
theorem crcF_rng (bs : List Int) : 0 ≤ crcF bs ∧ crcF bs < 4294967296 := by
  have h := crc_lt bs 4294967295 (by omega)
  have h2 : crcG bs ^^^ 4294967295 < 4294967296 := Nat.xor_lt_two_pow (n := 32) h (by omega)
  unfold crcF
  omega
/-! As the walk tells it -/
theorem w32 {n : Int} (h0 : 0 ≤ n) (h1 : n < 4294967296) : IntKind.u32.wrap n = n := by rw [IntKind.wrap_u32']; omega
theorem rx {a b : Nat} (ha : a < 4294967296) (hb : b < 4294967296) : bXor .u32 (a : Int) (b : Int) = ((a ^^^ b : Nat) : Int) := u32_xor_nat a b ha hb
theorem ra {a b : Nat} (ha : a < 4294967296) (hb : b < 4294967296) : bAnd .u32 (a : Int) (b : Int) = ((a &&& b : Nat) : Int) := u32_and_nat a b ha hb
theorem and1 (a : Nat) : a &&& 1 = a % 2 := Nat.and_two_pow_sub_one_eq_mod a 1
theorem fd (a k : Nat) : Int.fdiv (a : Int) (2 ^ k) = ((a / 2 ^ k : Nat) : Int) := by
  have : ((2 : Int) ^ k) = ((2 ^ k : Nat) : Int) := by simp
  rw [this, Int.ofNat_fdiv]
theorem eight (R B : Nat) : (List.range' 0 8).foldl (fun r K => bitN r (B / 2 ^ K)) R = byteN R B := by
  have d1 : B / 2 ^ 0 = B := by simp
  show bitN (bitN (bitN (bitN (bitN (bitN (bitN (bitN R (B / 2 ^ 0)) (B / 2 ^ 1)) (B / 2 ^ 2)) (B / 2 ^ 3)) (B / 2 ^ 4)) (B / 2 ^ 5)) (B / 2 ^ 6)) (B / 2 ^ 7) = _
  unfold byteN step4
  rw [d1, show B / 16 / 2 = B / 2 ^ 5 by omega, show B / 16 / 4 = B / 2 ^ 6 by omega, show B / 16 / 8 = B / 2 ^ 7 by omega]
theorem byteS {x : Int} (h0 : 0 ≤ x) (h1 : x ≤ 255) : ∃ B : Nat, x = (B : Int) ∧ B < 256 := ⟨x.toNat, by omega, by omega⟩
end Go.Proofs.YtaolgdpkcbfocaaDoorA
