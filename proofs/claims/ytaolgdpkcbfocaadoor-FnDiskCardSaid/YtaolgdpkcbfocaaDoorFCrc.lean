/- The checksum: both programs reckon the same. -/
import Derived.Test.YtaolgdpkcbfocaaDoorFNum
import Derived.Test.YtaolgdpkcbfocaaDoorFCrcM
namespace Go.Proofs.YtaolgdpkcbfocaaDoorA
open Go.Proofs
set_option autoImplicit false
set_option linter.unusedVariables false
set_option linter.unusedSimpArgs false
set_option maxRecDepth 4000
theorem crc_at {bs : List Int} {i : Nat} {x : Int} (h : bs[i]? = some x) (R : Nat) : (bs.drop i).foldl (fun r b => byteN r b.toNat) R = (bs.drop (i + 1)).foldl (fun r b => byteN r b.toNat) (byteN R x.toNat) := by
  have hi := (List.getElem?_eq_some_iff.1 h).1
  have e : bs[i] = x := by rw [List.getElem?_eq_getElem hi] at h; exact Option.some.inj h
  rw [List.drop_eq_getElem_cons hi, List.foldl_cons, e]
/-- The table's words, by their places: they are only read. -/
theorem amOp_gaddr {P : Program} {Γ : Nat → Option Row} {C : Ctx} {Q : Exit → St → Prop} {K : St → Prop} {st : St} {o : Oper} (hΓ : TabOk P Γ) {t n e : Nat} {x ix : Operand} {r q : Row} {k : IntKind} {j : Nat} (ho : o.op = .indexAddr t x ix) (ht : Γ t = some r) (hk : r.k = .arr n e) (hq : Γ e = some q) (hsz : q.size = 1)
    (hx : st.eval x = .c (.t (.v (.pointer (some ⟨1, 0, none⟩))))) (hi : st.eval ix = lit (.int k (j : Nat))) (hn : j < n) (hj : j < 16) (hd : dstOk C.n o = true) (hK : K (st.put o.dst (.c (.rp [.v (.int .u32 (nibL.getD j 0))])))) : amOp P C o Q K st := by
  refine amOp_pure hd hK fun E a w hr => ?_
  have hu := (hΓ t r ht).k
  rw [hk] at hu
  have hpre : Pre w E := Pre.later hr.fc fun _ _ h => h
  have h3 : a.eval x = .pointer (some ⟨1, 0, none⟩) := hr.lit hx
  have hii := hr.lit hi
  refine ⟨.pointer (some ⟨1, j, none⟩), ?_, 1, j, rfl, fun i t hit => ?_⟩
  · have h9 : 0 ≤ (j : Int) ∧ (j : Int) < (n : Int) := ⟨by omega, by omega⟩
    simp [execOp, ho, h3, hii, Instr.indexAt, Instr.sureAddr, asIntOf, run_underlying hu, h9, run_sizeOf hΓ hq, hsz, Addr.add_mid]
    omega
  · cases i with
    | zero =>
      cases hit
      exact ⟨hpre.own _, _, hpre.1 j hj, .v _ rfl⟩
    | succ i => simp at hit
set_option maxHeartbeats 16000000 in
theorem crcS_tc (bs : List Int) (hb : ∀ n, n ∈ bs → 0 ≤ n ∧ n ≤ 255) (hl : bs.length ≤ 1048576) : TC Tryd.prog 81 [ro 1 (bs.map bTr)] [] 1 (lit (.int .u32 (crcF bs))) [] 1 := by
  refine tc_intro Tryd.func81 rfl 39 rfl (Nat.le_of_ble_eq_true rfl) (by decide) [2] rfl (by intro id x h; cases h) ?_
  intro w0 E0
  have kOk := k50
  refine wk ?_
  refine am_tidy [] [0, 3, 4] 1 rfl ?_
  refine go ?_
  refine am_loop (bs.length + 1) ?_
  suffices key : ∀ (d i R : Nat), i + d = bs.length → R < 4294967296 → (bs.drop i).foldl (fun r b => byteN r b.toNat) R = crcG bs → amR Tryd.prog _ _ _ (d + 1) ⟨[(0, ro 1 (bs.map bTr)), (3, lit (.int .u32 (R : Nat))), (4, int (i : Nat))], [], 1⟩ from key bs.length 0 4294967295 (by simp) (by omega) rfl
  intro d
  induction d with
  | zero =>
    intro i R hi hR hf
    rw [List.drop_eq_nil_of_le (by omega)] at hf
    obtain rfl : R = crcG bs := hf
    have hp := (show (bs.map bTr).length = bs.length ∧ ((i : Int) < (bs.length : Int)) = False ∧ bXor .u32 (crcG bs : Nat) 4294967295 = crcF bs from ⟨by simp, eq_false (by omega), rx (b := 4294967295) hR (by omega)⟩)
    refine amR_succ ?_
    refine wk1 ?_
    refine am_retP rfl ?_ rfl
    first | refine go1 ?_ | rfl
  | succ d ih =>
    intro i R hi hR hf
    obtain ⟨x, hx⟩ : ∃ x, bs[i]? = some x := ⟨bs[i]'(by omega), List.getElem?_eq_getElem (by omega)⟩
    rw [crc_at hx] at hf
    obtain ⟨h0, h1⟩ := hb x (List.mem_of_getElem? hx)
    obtain ⟨B, rfl, hB⟩ := byteS h0 h1
    rw [Int.toNat_natCast] at hf
    have hbx : (bs.map bTr)[i]? = some [.v (.int .u8 (B : Nat))] := by rw [List.getElem?_map, hx]; rfl
    have hp := (show (bs.map bTr).length = bs.length ∧ ((i : Int) < (bs.length : Int)) = True from ⟨by simp, eq_true (by omega)⟩)
    refine amR_succ ?_
    refine wk1 ?_
    refine am_tidy [] [0, 3, 4, 5] 1 rfl ?_
    refine go1 ?_
    refine am_loop 9 ?_
    clear hp
    suffices key : ∀ (e k R' : Nat), k + e = 8 → R' < 4294967296 → (List.range' k e).foldl (fun r K => bitN r (B / 2 ^ K)) R' = byteN R B → amR Tryd.prog _ _ _ (e + 1) ⟨[(0, ro 1 (bs.map bTr)), (3, lit (.int .u32 (R' : Nat))), (4, int (i : Nat)), (5, int (k : Nat))], [], 1⟩ from key 8 0 R (by simp) hR (eight R B)
    intro e
    induction e with
    | zero =>
      intro k R' hk hR' hf'
      obtain rfl : R' = byteN R B := hf'
      have hp := (show ((k : Int) < 8) = False ∧ IntKind.i64.wrap ((i : Int) + 1) = ((i + 1 : Nat) : Int) from ⟨eq_false (by omega), by rw [wrapN (by omega) (by omega)]; rfl⟩)
      refine amR_succ ?_
      refine wk1 ?_
      refine amR_tidy [] [0, 3, 4] 1 rfl ?_
      refine go1 ?_
      exact ih (i + 1) _ (by omega) hR' hf
    | succ e ihe =>
      intro k R' hk hR' hf'
      rw [List.range'_succ, List.foldl_cons] at hf'
      obtain ⟨D, hD⟩ : ∃ D, D = B / 2 ^ k := ⟨_, rfl⟩
      rw [← hD] at hf'
      have hD2 : D < 256 := by rw [hD]; exact Nat.lt_of_le_of_lt (Nat.div_le_self _ _) hB
      have hm : min k 8 = k := Nat.min_eq_left (by show k ≤ 8; omega)
      have hbl := bitN_lt R' D hR'
      have e1 : Int.fdiv (B : Nat) (2 ^ min k 8) = (D : Nat) := by rw [hm, fd, hD]
      have e2 : bAnd .u32 (D : Nat) 1 = ((D % 2 : Nat) : Int) := (ra (b := 1) (by omega) (by omega)).trans (by rw [and1])
      have e3 : bXor .u32 (R' : Nat) ((D % 2 : Nat) : Int) = ((R' ^^^ (D % 2) : Nat) : Int) := rx hR' (by omega)
      have hxl : R' ^^^ (D % 2) < 4294967296 := Nat.xor_lt_two_pow (n := 32) (by omega) (by omega)
      have e4 : bAnd .u32 ((R' ^^^ (D % 2) : Nat) : Int) 1 = (((R' ^^^ D) % 2 : Nat) : Int) := (ra (b := 1) hxl (by omega)).trans (by
        rw [and1, xor_mod2, xor_mod2 R' D]
        congr 1
        omega)
      have e5 : Int.fdiv (R' : Nat) (2 ^ min 1 32) = ((R' / 2 : Nat) : Int) := fd R' 1
      have e6 : bXor .u32 ((R' / 2 : Nat) : Int) 3988292384 = ((R' / 2 ^^^ 3988292384 : Nat) : Int) := rx (b := 3988292384) (by omega) (by omega)
      have hp0 := (show (bs.map bTr)[i]? = some [.v (.int .u8 (B : Nat))] ∧ ((k : Int) < 8) = True ∧ ((k : Int) < 0) = False ∧ IntKind.u64.wrap (k : Nat) = (k : Nat) ∧ Int.fdiv (B : Nat) (2 ^ min k 8) = (D : Nat) ∧ IntKind.u32.wrap (D : Nat) = (D : Nat) ∧ IntKind.i64.wrap ((k : Int) + 1) = ((k + 1 : Nat) : Int) from
        ⟨hbx, eq_true (by omega), eq_false (by omega), by rw [IntKind.wrap_u64]; omega, e1, w32 (by omega) (by omega), by rw [wrapN (by omega) (by omega)]; rfl⟩)
      have hp1 := And.intro e2 (And.intro e3 (And.intro e4 (And.intro e5 e6)))
      have ihk := ihe (k + 1) (bitN R' D) (by omega) hbl hf'
      clear ihe e1 e2 e3 e4 e5 e6
      by_cases hc : (R' ^^^ D) % 2 = 1
      · have e7 : bitN R' D = R' / 2 ^^^ 3988292384 := if_pos hc
        rw [e7] at ihk
        have hp := And.intro (show ((((R' ^^^ D) % 2 : Nat) : Int) == 1) = true from by rw [hc]; rfl) (And.intro hp0 hp1)
        refine amR_succ ?_
        refine wk1 ?_
        refine amR_tidy [] [0, 3, 4, 5] 1 rfl ?_
        refine go1 ?_
        exact ihk
      · have e7 : bitN R' D = R' / 2 := if_neg hc
        rw [e7] at ihk
        have hp := And.intro (show ((((R' ^^^ D) % 2 : Nat) : Int) == 1) = false from by simp; omega) (And.intro hp0 hp1)
        refine amR_succ ?_
        refine wk1 ?_
        refine amR_tidy [] [0, 3, 4, 5] 1 rfl ?_
        refine go1 ?_
        exact ihk
set_option maxHeartbeats 16000000 in
theorem crcI_tc (bs : List Int) (hb : ∀ n, n ∈ bs → 0 ≤ n ∧ n ≤ 255) (hl : bs.length ≤ 1048576) : TC Tryd.prog 84 [ro 1 (bs.map bTr)] [] 1 (lit (.int .u32 (crcF bs))) [] 1 := by
  refine tc_intro Tryd.func84 rfl 36 rfl (Nat.le_of_ble_eq_true rfl) (by decide) [2] rfl (by intro id x h; cases h) ?_
  intro w0 E0
  have kOk := k50
  have hp : (bs.map bTr).length = bs.length := by simp
  refine wk1 ?_
  refine am_tidy [] [3, 6, 7, 8] 1 rfl ?_
  refine go1 ?_
  clear hp
  refine am_loop (bs.length + 1) ?_
  suffices key : ∀ (d i R : Nat), i + d = bs.length → R < 4294967296 → (bs.drop i).foldl (fun r b => byteN r b.toNat) R = crcG bs → amR Tryd.prog _ _ _ (d + 1) ⟨[(3, lit (.int .u32 (R : Nat))), (6, ro 1 (bs.map bTr)), (7, int (bs.length : Nat)), (8, int (i : Nat))], [], 1⟩ from key bs.length 0 4294967295 (by simp) (by omega) rfl
  intro d
  induction d with
  | zero =>
    intro i R hi hR hf
    rw [List.drop_eq_nil_of_le (by omega)] at hf
    obtain rfl : R = crcG bs := hf
    have hp := (show ((i : Int) < (bs.length : Int)) = False ∧ (if IntKind.u32.signed = true then (-1 : Int) else IntKind.u32.max) = 4294967295 ∧ bXor .u32 4294967295 (crcG bs : Nat) = crcF bs from ⟨eq_false (by omega), rfl, (rx (a := 4294967295) (by omega) hR).trans (by rw [Nat.xor_comm]; rfl)⟩)
    refine amR_succ ?_
    refine wk1 ?_
    refine am_retP rfl ?_ rfl
    first | refine go1 ?_ | rfl
  | succ d ih =>
    intro i R hi hR hf
    obtain ⟨x, hx⟩ : ∃ x, bs[i]? = some x := ⟨bs[i]'(by omega), List.getElem?_eq_getElem (by omega)⟩
    rw [crc_at hx] at hf
    obtain ⟨h0, h1⟩ := hb x (List.mem_of_getElem? hx)
    obtain ⟨B, rfl, hB⟩ := byteS h0 h1
    rw [Int.toNat_natCast] at hf
    have hbx : (bs.map bTr)[i]? = some [.v (.int .u8 (B : Nat))] := by rw [List.getElem?_map, hx]; rfl
    obtain ⟨R1, hR1⟩ : ∃ r, r = step4 R B := ⟨_, rfl⟩
    have hR1l : R1 < 4294967296 := by rw [hR1]; exact step4_lt _ _ hR
    have hR2 : byteN R B = step4 R1 (B / 16) := by rw [hR1]; rfl
    obtain ⟨j1, hj1⟩ : ∃ j, j = (R ^^^ B) &&& 15 := ⟨_, rfl⟩
    obtain ⟨j2, hj2⟩ : ∃ j, j = (R1 ^^^ (B / 16)) &&& 15 := ⟨_, rfl⟩
    have hj1l : j1 < 16 := by rw [hj1]; exact and15 _ _
    have hj2l : j2 < 16 := by rw [hj2]; exact and15 _ _
    have e1 : bXor .u32 (R : Nat) (B : Nat) = ((R ^^^ B : Nat) : Int) := rx hR (by omega)
    have e2 : bAnd .u32 ((R ^^^ B : Nat) : Int) 15 = (j1 : Nat) := (ra (b := 15) (Nat.xor_lt_two_pow (n := 32) hR (by omega)) (by omega)).trans (by rw [hj1])
    have e3 : Int.fdiv (R : Nat) (2 ^ min 4 32) = ((R / 16 : Nat) : Int) := fd R 4
    have e4 : bXor .u32 (nibL.getD j1 0) ((R / 16 : Nat) : Int) = (R1 : Nat) := by
      rw [nib_nat j1 hj1l, rx (nib_lt j1 hj1l) (by omega), hj1, nib_half, ← hR1]
    have e5 : Int.fdiv (B : Nat) (2 ^ min 4 8) = ((B / 16 : Nat) : Int) := fd B 4
    have e6 : bXor .u32 (R1 : Nat) ((B / 16 : Nat) : Int) = ((R1 ^^^ (B / 16) : Nat) : Int) := rx hR1l (by omega)
    have e7 : bAnd .u32 ((R1 ^^^ (B / 16) : Nat) : Int) 15 = (j2 : Nat) := (ra (b := 15) (Nat.xor_lt_two_pow (n := 32) hR1l (by omega)) (by omega)).trans (by rw [hj2])
    have e8 : Int.fdiv (R1 : Nat) (2 ^ min 4 32) = ((R1 / 16 : Nat) : Int) := fd R1 4
    have e9 : bXor .u32 (nibL.getD j2 0) ((R1 / 16 : Nat) : Int) = (byteN R B : Nat) := by
      rw [nib_nat j2 hj2l, rx (nib_lt j2 hj2l) (by omega), hj2, nib_half, ← hR2]
    have hp := (show ((i : Int) < (bs.length : Int)) = True ∧ (bs.map bTr)[i]? = some [.v (.int .u8 (B : Nat))] ∧ IntKind.u32.wrap (B : Nat) = (B : Nat) ∧ IntKind.u32.wrap ((B / 16 : Nat) : Int) = ((B / 16 : Nat) : Int) ∧ IntKind.i64.wrap ((i : Int) + 1) = ((i + 1 : Nat) : Int) from
      ⟨eq_true (by omega), hbx, w32 (by omega) (by omega), w32 (by omega) (by omega), by rw [wrapN (by omega) (by omega)]; rfl⟩)
    replace hp := And.intro hp (And.intro e1 (And.intro e2 (And.intro e3 (And.intro e4 (And.intro e5 (And.intro e6 (And.intro e7 (And.intro e8 e9))))))))
    clear e1 e2 e3 e4 e5 e6 e7 e8 e9
    refine amR_succ ?_
    refine wk1 ?_
    refine am_rs tabOk kOk rfl fun K Q1 hK => ?_
    refine go1 ?_
    refine amOp_gaddr tabOk rfl rfl rfl rfl rfl rfl rfl (by omega) hj1l rfl ?_
    refine go1 ?_
    refine hK _ ?_
    clear hK K Q1
    refine go1 ?_
    refine wk1 ?_
    refine am_reg tabOk kOk rfl fun K Q1 hK => ?_
    refine go1 ?_
    refine amOp_gaddr tabOk rfl rfl rfl rfl rfl rfl rfl (by omega) hj2l rfl ?_
    refine go1 ?_
    refine hK _ ?_
    clear hK K Q1
    refine go1 ?_
    refine wk1 ?_
    refine amR_tidy [] [3, 6, 7, 8] 1 rfl ?_
    refine go1 ?_
    exact ih (i + 1) _ (by omega) (byteN_lt _ _ hR) hf
end Go.Proofs.YtaolgdpkcbfocaaDoorA
