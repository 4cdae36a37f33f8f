/- Draws: what is known of what is drawn. -/
import Derived.Test.YtgalnkilcajgcaaFDraw8
namespace Go.Proofs.YtgalnkilcajgcaaA
open Go.Proofs
set_option autoImplicit false
set_option linter.unusedVariables false
set_option linter.unusedSimpArgs false
theorem longF_size (n c : Int) : (longF n c).size = n.toNat := by unfold longF; rw [strOfNums_size]; simp
theorem wordF_size {bs : List Int} {a : Int} {e : Bool} (hb : okS bs) (h0 : 0 ≤ a) (h1 : a ≤ 1099511627000) : (wordF bs a e).size ≤ 64 ∧ (e = false → 1 ≤ (wordF bs a e).size) := by
  have r := pk_rng (bs := bs) (a := a + 1) (n := 2) hb ⟨by omega, by omega⟩ (by omega)
  have hw : IntKind.i64.wrap (64 - pkF bs (a + 1) 2) = 64 - pkF bs (a + 1) 2 := wrapN (by omega) (by omega)
  unfold wordF
  split
  · rename_i h
    exact ⟨Nat.zero_le _, fun he => by rw [he] at h; exact absurd h.2 (by simp)⟩
  split
  · rw [longF_size, hw]
    omega
  split
  · rw [strOfNums_size]; simp
  split
  · rw [strOfNums_size]; simp
  · rw [strOfNums_size]; simp
theorem cmdOp_rng {bs : List Int} {a : Int} (hb : okS bs) (h0 : 0 ≤ a) (h1 : a ≤ 1099511620000) : 1 ≤ cmdOp bs a ∧ cmdOp bs a ≤ 4 := by
  have r := pk_rng (bs := bs) (a := a + 1 + 1) (n := 4) hb ⟨by omega, by omega⟩ (by omega)
  unfold cmdOp
  rw [wrapN (by omega) (by omega)]
  omega
theorem cmdB_le (bs : List Int) (a : Int) : a + 4 ≤ cmdB bs a ∧ cmdB bs a ≤ a + 8 := by
  have h1 := wordN_le bs (a + 1 + 1 + 1) false
  have h5 : cmdA bs a = wordN bs (a + 1 + 1 + 1) false := rfl
  unfold cmdB
  split <;> omega
/-- A drawn command, under whatever name and number, is well-formed. -/
theorem cmdF_ok {bs : List Int} {a cl sq : Int} (hb : okS bs) (h0 : 0 ≤ a) (h1 : a ≤ 1099511620000) (hc : 1 ≤ cl ∧ cl ≤ 8) (hs : 1 ≤ sq ∧ sq ≤ 1073741824) : cmF { cmdF bs a with cl := cl, sq := sq } = 0 := by
  have ho := cmdOp_rng hb h0 h1
  have hB := cmdB_le bs a
  have hN := wordN_le bs (cmdB bs a) true
  have k := wordF_size (bs := bs) (a := a + 1 + 1 + 1) (e := false) hb (by omega) (by omega)
  have v := wordF_size (bs := bs) (a := cmdB bs a) (e := true) hb (by omega) (by omega)
  have o := wordF_size (bs := bs) (a := wordN bs (cmdB bs a) true) (e := true) hb (by omega) (by omega)
  have hz : (ByteArray.mk #[]).size = 0 := rfl
  unfold cmF cmdF
  simp only
  have k2 := k.2 rfl
  have hv : (if cmdOp bs a = 2 ∨ cmdOp bs a = 4 then wordF bs (cmdB bs a) true else ⟨#[]⟩).size ≤ (if cmdOp bs a = 2 ∨ cmdOp bs a = 4 then 64 else 0) := by
    split
    · exact v.1
    · rw [hz]; omega
  have hov : (if cmdOp bs a = 4 then wordF bs (wordN bs (cmdB bs a) true) true else ⟨#[]⟩).size ≤ (if cmdOp bs a = 4 then 64 else 0) := by
    split
    · exact o.1
    · rw [hz]; omega
  rw [if_neg (by omega), if_neg (by omega), if_neg (by omega), if_neg (by omega), if_neg (by omega), if_neg (by omega), if_neg (by omega)]
theorem next_rng {c : Cl} (hn : c.n = 3 ∨ c.n = 5 ∨ c.n = 7) (ht : 1 ≤ c.to ∧ c.to ≤ c.n) : 1 ≤ nextF c ∧ nextF c ≤ c.n := by
  unfold nextF
  have h1 : Int.tmod c.to c.n = c.to % c.n := Int.tmod_eq_emod_of_nonneg (by omega)
  have h2 := Int.emod_nonneg c.to (show c.n ≠ 0 by omega)
  have h3 := Int.emod_lt_of_pos c.to (show 0 < c.n by omega)
  rw [h1, wrapN (by omega) (by omega)]
  omega
/-- What is kept by a client's step. -/
theorem step_keeps {c : Cl} {e : Ev} (h : clF c = true) : clF (stepF c e).c = true := by
  have h' := h
  simp only [clF, decide_eq_true_eq] at h
  obtain ⟨a1, a2, a3, a4, a5, a6, a7⟩ := h
  have nx := next_rng a2 a5
  unfold stepF
  rw [if_neg (by rw [h']; simp)]
  split
  · unfold askF
    split
    · exact h'
    split
    · exact h'
    · rename_i h2 h3
      have hw : IntKind.i64.wrap (c.sq + 1) = c.sq + 1 := wrapN (by omega) (by omega)
      have hm : cmF (askM c e.m) = 0 := Classical.byContradiction fun hx => h3 (.inl hx)
      simp only [clF, decide_eq_true_eq]
      refine ⟨a1, a2, a3, ⟨by omega, by omega⟩, a5, ⟨by omega, by omega⟩, .inr ⟨by first | trivial | omega, by omega, hm, rfl, rfl⟩⟩
  split
  · unfold pokeF
    split
    · exact h'
    split
    · rename_i h2 h3
      have hw : IntKind.i64.wrap (c.tk + 1) = c.tk + 1 := wrapN (by omega) (by omega)
      simp only [clF, decide_eq_true_eq]
      refine ⟨a1, a2, a3, a4, a5, ⟨by omega, by omega⟩, .inr ?_⟩
      omega
    · simp only [clF, decide_eq_true_eq]
      refine ⟨a1, a2, a3, a4, nx, ⟨by omega, by omega⟩, .inr ?_⟩
      omega
  split
  · unfold hearF
    split
    · exact h'
    split
    · exact h'
    rename_i h2 h3
    split
    · simp only [clF, decide_eq_true_eq]
      refine ⟨a1, a2, a3, a4, a5, ⟨by omega, by omega⟩, .inl ?_⟩; (refine ⟨?_, ?_, ?_, ?_, ?_, ?_, ?_, ?_⟩ <;> first | trivial | rfl)
    split
    · simp only [clF, decide_eq_true_eq]
      refine ⟨a1, a2, a3, a4, by omega, ⟨by omega, by omega⟩, .inr ?_⟩
      omega
    · simp only [clF, decide_eq_true_eq]
      refine ⟨a1, a2, a3, a4, nx, a6, .inr ?_⟩
      omega
  · exact h'
theorem repSt_rng {bs : List Int} {a : Int} (hb : okS bs) (h0 : 0 ≤ a) (h1 : a ≤ 1099511620000) : repSt bs a = 1 ∨ repSt bs a = 2 := by
  have r := pk_rng (bs := bs) (a := a + 1 + 1) (n := 2) hb ⟨by omega, by omega⟩ (by omega)
  unfold repSt
  rw [wrapN (by omega) (by omega)]
  omega
/-- A drawn reply, under whatever name and number, is well-formed. -/
theorem repF_ok {bs : List Int} {a cl sq : Int} (hb : okS bs) (h0 : 0 ≤ a) (h1 : a ≤ 1099511620000) (hc : 1 ≤ cl ∧ cl ≤ 8) (hs : 1 ≤ sq ∧ sq ≤ 1073741824) : rpF { repF bs a with cl := cl, sq := sq } = 0 := by
  have ho := repSt_rng hb h0 h1
  have r4 := pk_rng (bs := bs) (a := a + 1 + 1 + 1 + 1) (n := 4) hb ⟨by omega, by omega⟩ (by omega)
  have r8 := pk_rng (bs := bs) (a := a + 1 + 1 + 1 + 1) (n := 8) hb ⟨by omega, by omega⟩ (by omega)
  have hw : IntKind.i64.wrap (1 + pkF bs (a + 1 + 1 + 1 + 1) 4) = 1 + pkF bs (a + 1 + 1 + 1 + 1) 4 := wrapN (by omega) (by omega)
  have v := wordF_size (bs := bs) (a := a + 1 + 1 + 1 + 1 + 1) (e := true) hb (by omega) (by omega)
  have hz : (ByteArray.mk #[]).size = 0 := rfl
  unfold rpF repF
  simp only [hw]
  rcases ho with ho | ho
  · simp only [ho, if_pos]
    rw [if_neg (by omega), if_neg (by omega), if_neg (by omega), if_neg (by omega), if_neg (by omega), if_neg (by omega)]
  · have h21 : ¬ (2 : Int) = 1 := by omega
    simp only [ho, if_neg h21, hz]
    rw [if_neg (by omega), if_neg (by omega), if_neg (by omega), if_neg (by omega), if_neg (by omega), if_neg (by omega)]
theorem cliF_ok {bs : List Int} {a : Int} (hb : okS bs) (h0 : 0 ≤ a) (h1 : a ≤ 1099511610000) : clF (cliF bs a) = true := by
  have rn := cliN_rng hb h0 h1
  have rp := cliP_rng hb h0 h1
  have r1 := pk_rng (bs := bs) (a := a) (n := 8) hb ⟨by omega, by omega⟩ (by omega)
  have r2 := pk_rng (bs := bs) (a := a + 1 + 1 + 1) (n := 9) hb ⟨by omega, by omega⟩ (by omega)
  have r3 := pk_rng (bs := bs) (a := a + 1 + 1 + 1 + 1 + 1 + 1) (n := 2) hb ⟨by omega, by omega⟩ (by omega)
  have r4 := pk_rng (bs := bs) (a := a + 1 + 1 + 1 + 1) (n := cliN bs a) hb ⟨by omega, by omega⟩ (by omega)
  have hB : a + 6 ≤ cliB bs a ∧ cliB bs a ≤ a + 7 := by unfold cliB; split <;> omega
  have cN := cmdN_le bs (cliB bs a + 1)
  have r5 := pk_rng (bs := bs) (a := cmdN bs (cliB bs a + 1)) (n := cliP bs a) hb ⟨by omega, by omega⟩ (by omega)
  have w1 : IntKind.i64.wrap (1 + pkF bs a 8) = 1 + pkF bs a 8 := wrapN (by omega) (by omega)
  have w2 : IntKind.i64.wrap (1 + pkF bs (a + 1 + 1 + 1 + 1) (cliN bs a)) = 1 + pkF bs (a + 1 + 1 + 1 + 1) (cliN bs a) := wrapN (by omega) (by omega)
  have hS : 0 ≤ cliS bs a ∧ cliS bs a ≤ 1073741824 := by
    unfold cliS
    have w3 : IntKind.i64.wrap (1073741824 - pkF bs (a + 1 + 1 + 1 + 1 + 1 + 1) 2) = 1073741824 - pkF bs (a + 1 + 1 + 1 + 1 + 1 + 1) 2 := wrapN (by omega) (by omega)
    rw [w3]
    split <;> omega
  unfold cliF
  split
  · rename_i hx
    have hm := cmdF_ok (bs := bs) (a := cliB bs a + 1) (cl := 1 + pkF bs a 8) (sq := cliS bs a) hb (by omega) (by omega) (by omega) (by omega)
    simp only [clF, decide_eq_true_eq, w1, w2]
    (refine ⟨by omega, rn, by omega, hS, by omega, by omega, .inr ⟨?_, ?_, ?_, ?_, ?_⟩⟩ <;> first | trivial | exact hm | rfl | omega)
  · simp only [clF, decide_eq_true_eq, w1, w2]
    refine ⟨by omega, rn, by omega, hS, by omega, by omega, .inl ?_⟩
    refine ⟨?_, ?_, ?_, ?_, ?_, ?_, ?_, ?_⟩ <;> first | trivial | rfl
end Go.Proofs.YtgalnkilcajgcaaA
