/- The stream of drawn numbers: each draw ends, moves on by at most four bytes and stays under its bound. -/
import Derived.Test.YtmiocbonmknioaaBase
import Derived.Test.YtmiocbonmknioaaPx10
namespace Go.Proofs.Ytmiocbonmknioaa.Pure
open Go.RowKit Go.Proofs.Ytmiocbonmknioaa.P Go.Proofs.Ytmiocbonmknioaa.Mth Go.Proofs.YtmiocbonmknioaaW.PrintWords

theorem u8_of {l : List Int} (hu : ∀ x ∈ l, (Lit.int .u8 x).wf = true) {i : Nat} (hi : i < l.length) : 0 ≤ l.getD i 0 ∧ l.getD i 0 ≤ 255 := by
  have h := hu (l.getD i 0) (by rw [List.getD_eq_getElem?_getD, List.getElem?_eq_getElem hi]; exact List.getElem_mem hi)
  generalize l.getD i 0 = v at *
  simp [Lit.wf, IntKind.min, IntKind.max, IntKind.signed, IntKind.bits] at h
  omega

theorem next_ok (l : List Int) (hl : l.length ≤ 1048576) (hu : ∀ x ∈ l, (Lit.int .u8 x).wf = true) {p : Int} (h0 : 0 ≤ p) (h1 : p ≤ 1000000000) :
    ∃ v, spec_l1next.f l p = some (v, p + 1) ∧ 0 ≤ v ∧ v ≤ 255 := by
  unfold spec_l1next.f
  by_cases h : p < (l.length : Int)
  · have hb := u8_of hu (i := p.toNat) (by omega)
    rw [if_pos h, if_pos h0]
    refine ⟨rd l p, ?_, hb.1, hb.2⟩
    rw [wrap64_id (x := rd l p) (by unfold rd; omega) (by unfold rd; omega), wrap64_id (by omega) (by omega)]
  · rw [if_neg h]
    have e3 : Int.tdiv p 3 = p / 3 := Int.tdiv_eq_ediv_of_nonneg h0
    rw [e3, wrap64_id (x := p * 167) (by omega) (by omega), wrap64_id (x := p / 3) (by omega) (by omega), wrap64_id (x := p / 3 * 41) (by omega) (by omega), wrap64_id (x := p * 167 + p / 3 * 41) (by omega) (by omega), wrap64_id (x := (l.length : Int) * 29) (by omega) (by omega), wrap64_id (x := p + 1) (by omega) (by omega), wrap64_id (by omega) (by omega)]
    refine ⟨_, rfl, ?_, ?_⟩
    · exact Int.tmod_nonneg _ (by omega)
    · have := Int.tmod_lt_of_pos (p * 167 + p / 3 * 41 + (l.length : Int) * 29) (show (0 : Int) < 256 by omega)
      omega

theorem pick_ok (l : List Int) (hl : l.length ≤ 1048576) (hu : ∀ x ∈ l, (Lit.int .u8 x).wf = true) {p a : Int} (h0 : 0 ≤ p) (h1 : p ≤ 999999000) (ha : 1 ≤ a) :
    ∃ v q, (∀ k, 0 < k → spec_l1pick.f k l p a = some (v, q)) ∧ p ≤ q ∧ q ≤ p + 4 ∧ 0 ≤ v ∧ v < a := by
  obtain ⟨v1, e1, a1, b1⟩ := next_ok l hl hu h0 (by omega)
  obtain ⟨v2, e2, a2, b2⟩ := next_ok l hl hu (p := p + 1) (by omega) (by omega)
  obtain ⟨v3, e3, a3, b3⟩ := next_ok l hl hu (p := p + 1 + 1) (by omega) (by omega)
  obtain ⟨v4, e4, a4, b4⟩ := next_ok l hl hu (p := p + 1 + 1 + 1) (by omega) (by omega)
  unfold spec_l1pick.f
  rw [e1]
  simp only [Option.bind_some]
  have hne : a ≠ 0 := by omega
  by_cases h256 : a > 256
  · have w1 : wrap64 (wrap64 (v1 * 256) + v2) = v1 * 256 + v2 := by
      rw [wrap64_id (x := v1 * 256) (by omega) (by omega), wrap64_id (by omega) (by omega)]
    by_cases h6 : a > 65536
    · have w2 : wrap64 (wrap64 (wrap64 ((v1 * 256 + v2) * 65536) + wrap64 (v3 * 256)) + v4) = (v1 * 256 + v2) * 65536 + v3 * 256 + v4 := by
        rw [wrap64_id (x := (v1 * 256 + v2) * 65536) (by omega) (by omega), wrap64_id (x := v3 * 256) (by omega) (by omega), wrap64_id (x := (v1 * 256 + v2) * 65536 + v3 * 256) (by omega) (by omega), wrap64_id (by omega) (by omega)]
      refine ⟨Int.tmod ((v1 * 256 + v2) * 65536 + v3 * 256 + v4) a, p + 1 + 1 + 1 + 1, fun k hk => ?_, by omega, by omega, Int.tmod_nonneg _ (by omega), Int.tmod_lt_of_pos _ (by omega)⟩
      obtain ⟨k, rfl⟩ : ∃ m, k = m + 1 := ⟨k - 1, by omega⟩
      rw [if_pos h256, e2]
      simp only [Option.bind_some, spec_l1pick.j0]
      rw [if_pos h6, e3]
      simp only [Option.bind_some]
      rw [e4]
      simp only [Option.bind_some]
      rw [if_neg hne, w1, w2]
    · refine ⟨Int.tmod (v1 * 256 + v2) a, p + 1 + 1, fun k hk => ?_, by omega, by omega, Int.tmod_nonneg _ (by omega), Int.tmod_lt_of_pos _ (by omega)⟩
      obtain ⟨k, rfl⟩ : ∃ m, k = m + 1 := ⟨k - 1, by omega⟩
      rw [if_pos h256, e2]
      simp only [Option.bind_some, spec_l1pick.j0]
      rw [if_neg h6, if_neg hne, w1]
  · refine ⟨Int.tmod v1 a, p + 1, fun k hk => ?_, by omega, by omega, Int.tmod_nonneg _ (by omega), Int.tmod_lt_of_pos _ (by omega)⟩
    obtain ⟨k, rfl⟩ : ∃ m, k = m + 1 := ⟨k - 1, by omega⟩
    rw [if_neg h256]
    simp only [spec_l1pick.j0]
    rw [if_neg (by omega), if_neg hne]
end Go.Proofs.Ytmiocbonmknioaa.Pure
