/- For every byte string of at most 2^20 bytes the program's table-driven checksum is the reference's bitwise one. -/
import Derived.Test.YtdglmghhlokonaaDoorCrcMath
import Derived.Test.YtdglmghhlokonaaDoorPx1
import Derived.Test.YtdglmghhlokonaaDoorPx2
namespace Go.Proofs.YtdglmghhlokonaaDoor.Pure
open Go.RowKit Go.Proofs.YtdglmghhlokonaaDoor.P Go.Proofs.YtdglmghhlokonaaDoor.Mth Go.Proofs.YtdglmghhlokonaaDoorW.PrintWords Go.Proofs.YtdglmghhlokonaaDoorW.PrintMore

theorem toByteS_ok (l : List Int) (hl : l.length ≤ 281474976710656) : ∀ k, l.length < k → laws_toByteS.f k l = some l := by
  intro k hk
  unfold laws_toByteS.f
  rw [if_pos (by omega), if_pos (by omega)]
  have h := loop_up (fun k (s : List Int × Int) => laws_toByteS.l0 k l s.1 s.2) l.length (fun i => (l.take i ++ List.replicate (l.length - i) 0, (i : Int))) l (fun i hi k => by
    simp only [laws_toByteS.l0]
    rw [if_pos (by omega), if_pos (by omega), if_pos (by rw [List.length_append, List.length_take, List.length_replicate]; omega), wrap_succ (by omega)]
    simp only [rd, Int.toNat_natCast]
    rw [set_fill l 0 0 hi]) (fun k => by
    simp only [laws_toByteS.l0]
    rw [if_neg (by omega), List.take_length, Nat.sub_self, List.replicate_zero, List.append_nil]) k hk
  simpa using h

theorem eqByteS_ok (l : List Int) (hl : l.length ≤ 281474976710656) : ∀ k, l.length < k → laws_eqByteS.f k l l = some true := by
  intro k hk
  unfold laws_eqByteS.f
  rw [if_pos rfl]
  exact loop_up (fun k (s : Int) => laws_eqByteS.l0 k l l s) l.length (fun i => (i : Int)) true (fun i hi k => by
    simp only [laws_eqByteS.l0]
    rw [if_pos (by omega), if_pos (by omega), if_pos (by omega), if_pos trivial, wrap_succ (by omega)]) (fun k => by
    simp only [laws_eqByteS.l0]
    rw [if_neg (by omega)]) k hk

theorem bit_step (R B K : Nat) (hR : R < 4294967296) (hB : B < 256) (hK : K < 8) :
    (if Go.bits .and .u32 (Go.bits .xor .u32 (R : Int) (Go.bits .and .u32 ((shr .u8 (B : Int) (IntKind.u64.wrap (K : Int))) % 4294967296) 1)) 1 = 1 then Go.bits .xor .u32 ((R : Int) / 2) 3988292384 else (R : Int) / 2) = ((bitN R (B / 2 ^ K) : Nat) : Int) := by
  have e1 : shr .u8 (B : Int) (IntKind.u64.wrap (K : Int)) = ((B / 2 ^ K : Nat) : Int) := by
    unfold shr
    rw [IntKind.wrap_u64, show ((K : Int) % 18446744073709551616).toNat = K by omega, show min K IntKind.u8.bits = K from Nat.min_eq_left (by show K ≤ 8; omega)]
    simp
  have e2 : B / 2 ^ K < 256 := Nat.lt_of_le_of_lt (Nat.div_le_self _ _) hB
  generalize B / 2 ^ K = C at e1 e2
  have e3 : (C : Int) % 4294967296 = (C : Int) := by omega
  have e4 : (1 : Int) = ((1 : Nat) : Int) := rfl
  have e5 : (R : Int) / 2 = ((R / 2 : Nat) : Int) := by omega
  have e6 : (3988292384 : Int) = ((3988292384 : Nat) : Int) := rfl
  rw [e1, e3, e4, u32_and_nat _ _ (by omega) (by omega), u32_xor_nat _ _ hR (by have := Nat.and_le_left (n := C) (m := 1); omega), u32_and_nat _ _ (Nat.xor_lt_two_pow (n := 32) (by omega) (by have := Nat.and_le_left (n := C) (m := 1); omega)) (by omega), e5, e6, u32_xor_nat _ _ (by omega) (by omega)]
  have f1 : C &&& 1 = C % 2 := Nat.and_two_pow_sub_one_eq_mod C 1
  have f2 : (R ^^^ (C &&& 1)) &&& 1 = (R ^^^ (C &&& 1)) % 2 := Nat.and_two_pow_sub_one_eq_mod _ 1
  have f3 : (R ^^^ (C &&& 1)) &&& 1 = (R ^^^ C) % 2 := by
    rw [f2, f1, xor_mod2, xor_mod2 R C]
    omega
  rw [f3]
  unfold bitN
  by_cases h : (R ^^^ C) % 2 = 1
  · rw [if_pos (by rw [h]), if_pos h]
  · rw [if_neg (by omega), if_neg h]

theorem spec_bits (l : List Int) (i : Nat) (B : Nat) (hi : i < l.length) (hl : l.length ≤ 1048576) (hrd : rd l (i : Int) = (B : Int)) (hB : B < 256) :
    ∀ d K R : Nat, K + d = 8 → R < 4294967296 → ∀ k, spec_Crc32.l1 (k + d + 1) l (R : Int) (i : Int) (K : Int) =
      spec_Crc32.l0 k l (((List.range' K d).foldl (fun r K => bitN r (B / 2 ^ K)) R : Nat) : Int) ((i + 1 : Nat) : Int) := by
  intro d
  induction d with
  | zero =>
    intro K R hK hR k
    obtain rfl : K = 8 := by omega
    simp only [spec_Crc32.l1]
    rw [if_neg (by omega), wrap_succ (by omega)]
    rfl
  | succ d ih =>
    intro K R hK hR k
    have hs := bit_step R B K hR hB (by omega)
    have h8 : (0 : Int) ≤ IntKind.u64.wrap (K : Int) := by rw [IntKind.wrap_u64]; omega
    show spec_Crc32.l1 ((k + d + 1) + 1) l (R : Int) (i : Int) (K : Int) = _
    have e : spec_Crc32.l1 ((k + d + 1) + 1) l (R : Int) (i : Int) (K : Int) = spec_Crc32.l1 (k + d + 1) l (if Go.bits .and .u32 (Go.bits .xor .u32 (R : Int) (Go.bits .and .u32 ((shr .u8 (B : Int) (IntKind.u64.wrap (K : Int))) % 4294967296) 1)) 1 = 1 then Go.bits .xor .u32 ((R : Int) / 2) 3988292384 else (R : Int) / 2) (i : Int) ((K + 1 : Nat) : Int) := by
      conv => lhs; unfold spec_Crc32.l1
      rw [if_pos (by omega), if_pos (by omega), if_pos (by omega), if_pos h8, hrd, wrap_succ (by omega)]
      split <;> rfl
    rw [e, hs, ih (K + 1) _ (by omega) (bitN_lt _ _ hR) k, List.range'_succ]
    rfl

theorem eight (R B : Nat) : (List.range' 0 8).foldl (fun r K => bitN r (B / 2 ^ K)) R = byteN R B := by
  have d1 : B / 2 ^ 0 = B := by simp
  show bitN (bitN (bitN (bitN (bitN (bitN (bitN (bitN R (B / 2 ^ 0)) (B / 2 ^ 1)) (B / 2 ^ 2)) (B / 2 ^ 3)) (B / 2 ^ 4)) (B / 2 ^ 5)) (B / 2 ^ 6)) (B / 2 ^ 7) = _
  unfold byteN step4
  rw [d1, show B / 16 / 2 = B / 2 ^ 5 by omega, show B / 16 / 4 = B / 2 ^ 6 by omega, show B / 16 / 8 = B / 2 ^ 7 by omega]

theorem spec_crc (l : List Int) (hl : l.length ≤ 1048576) (hw : ∀ x ∈ l, 0 ≤ x ∧ x < 256) :
    ∀ d i R : Nat, i + d = l.length → R < 4294967296 → ∀ k, 10 * d < k → ∃ S : Nat, S < 4294967296 ∧ spec_Crc32.l0 k l (R : Int) (i : Int) = some (Go.bits .xor .u32 (S : Int) 4294967295) ∧ (l.drop i).foldl crcStep (R : Int) = (S : Int) := by
  intro d
  induction d with
  | zero =>
    intro i R hi hR k hk
    obtain ⟨k, rfl⟩ : ∃ m, k = m + 1 := ⟨k - 1, by omega⟩
    refine ⟨R, hR, ?_, ?_⟩
    · simp only [spec_Crc32.l0]
      rw [if_neg (by omega)]
    · rw [List.drop_of_length_le (by omega)]
      rfl
  | succ d ih =>
    intro i R hi hR k hk
    obtain ⟨k, rfl⟩ : ∃ m, k = m + 8 + 1 + 1 := ⟨k - 10, by omega⟩
    have hlt : i < l.length := by omega
    obtain ⟨h0, h1⟩ := hw _ (List.getElem_mem hlt)
    obtain ⟨B, hB⟩ : ∃ B : Nat, l[i] = (B : Int) := ⟨l[i].toNat, by omega⟩
    have hrd : rd l (i : Int) = (B : Int) := by
      unfold rd
      rw [Int.toNat_natCast, List.getD_eq_getElem?_getD, List.getElem?_eq_getElem hlt, ← hB]
      rfl
    have hB256 : B < 256 := by omega
    obtain ⟨S, hS, hs, hf⟩ := ih (i + 1) (byteN R B) (by omega) (byteN_lt _ _ hR) k (by omega)
    refine ⟨S, hS, ?_, ?_⟩
    · have e : spec_Crc32.l0 (k + 8 + 1 + 1) l (R : Int) (i : Int) = spec_Crc32.l1 (k + 8 + 1) l (R : Int) (i : Int) ((0 : Nat) : Int) := by
        conv => lhs; unfold spec_Crc32.l0
        rw [if_pos (by omega)]
        rfl
      rw [e, spec_bits l i B hlt hl hrd hB256 8 0 R rfl hR k, eight]
      exact hs
    · rw [List.drop_eq_getElem_cons hlt, List.foldl_cons, hB, crcStep_nat R B hR hB256]
      exact hf

theorem crc_same (l : List Int) (hl : l.length ≤ 1048576) (hw : ∀ x ∈ l, 0 ≤ x ∧ x < 256) : ∀ k, 10 * l.length < k → ∃ c, spec_Crc32.f k l = some c ∧ impl_Crc32.f l = some c := by
  intro k hk
  obtain ⟨S, hS, h1, h2⟩ := spec_crc l hl hw l.length 0 4294967295 (by omega) (by omega) k hk
  refine ⟨_, h1, ?_⟩
  unfold impl_Crc32.f
  rw [if_pos (by omega)]
  rw [List.drop_zero] at h2
  have e : IntKind.u32.max = ((4294967295 : Nat) : Int) := rfl
  rw [e]
  have h2' : List.foldl crcStep 4294967295 l = (S : Int) := h2
  have e3 : (4294967295 : Int) = ((4294967295 : Nat) : Int) := rfl
  rw [h2', u32_xor_nat _ _ (by omega) hS, e3, u32_xor_nat _ _ hS (by omega), Nat.xor_comm]

theorem FnExactCrc32 : laws_FnExactCrc32.Pure := by
  intro l0 hm hy hw
  refine ⟨10 * l0.length + 1, ?_⟩
  unfold laws_FnExactCrc32.f
  by_cases hbig : (l0.length : Int) > 1048576
  · rw [if_pos hbig]
  · have hl : l0.length ≤ 1048576 := by omega
    have hb : ∀ x ∈ l0, 0 ≤ x ∧ x < 256 := fun x hx => by
      have h := hw x hx
      have h2 : IntKind.u8.min ≤ x ∧ x ≤ IntKind.u8.max := by simpa [Lit.wf] using h
      have e1 : IntKind.u8.min = 0 := rfl
      have e2 : IntKind.u8.max = 255 := rfl
      omega
    obtain ⟨c, h1, h2⟩ := crc_same l0 hl hb (10 * l0.length + 1) (by omega)
    have ht := toByteS_ok l0 (by omega) (10 * l0.length + 1) (by omega)
    have he := eqByteS_ok l0 (by omega) (10 * l0.length + 1) (by omega)
    rw [if_neg hbig, ht]
    simp only [Option.bind_some, h1, h2, he, if_true]
end Go.Proofs.YtdglmghhlokonaaDoor.Pure
