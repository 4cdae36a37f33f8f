/- For every byte string and both numbers the program's Spoil is the reference's, writes into no argument and hands out new memory. -/
import Derived.Test.YtmiocbonmknioaaExact
import Derived.Test.YtmiocbonmknioaaPx13
import Derived.Test.YtmiocbonmknioaaPx14
import Derived.Test.YtmiocbonmknioaaPx16
namespace Go.Proofs.Ytmiocbonmknioaa.Pure
open Go.RowKit Go.Proofs.Ytmiocbonmknioaa.P Go.Proofs.Ytmiocbonmknioaa.Mth Go.Proofs.YtmiocbonmknioaaW.PrintWords

theorem mod_both (x : Int) {n : Int} (h1 : 1 ≤ n) (h2 : n ≤ 1099511627776) : ∃ r, 0 ≤ r ∧ r < n ∧ impl_modulo.f x n = some r ∧ spec_l1mod.f x n = some r := by
  have h0 : n ≠ 0 := by omega
  have hm := modulo_same x h1 h2
  have hb := tmod_bounds x h1
  unfold impl_modulo.f spec_l1mod.f
  rw [if_neg h0, if_neg h0, hm]
  by_cases hn : Int.tmod x n < 0
  · rw [if_pos hn, if_pos hn, wrap64_id (by omega) (by omega)]
    exact ⟨_, by omega, by omega, rfl, rfl⟩
  · rw [if_neg hn, if_neg hn]
    exact ⟨_, by omega, by omega, rfl, rfl⟩

theorem spoil_loop (l : List Int) (c q p : Int) (hp0 : 0 ≤ p) (hp : p < (l.length : Int)) (hl : l.length ≤ 1048576) (hq : spec_l1mod.f c 255 = some q) {k : Nat} (hk : l.length < k) :
    spec_Spoil.l0 k l c [] p 0 = some (l.set p.toNat (Go.bits .xor .u8 (rd l p) ((wrap64 (1 + q)) % 256))) := by
  generalize hv : Go.bits .xor .u8 (rd l p) ((wrap64 (1 + q)) % 256) = v
  have hlen : (l.set p.toNat v).length = l.length := List.length_set
  have h := loop_up (fun k (s : List Int × Int) => spec_Spoil.l0 k l c s.1 p s.2) l.length (fun i => ((l.set p.toNat v).take i, (i : Int))) (l.set p.toNat v) (fun i hi k => by
    have hs : (l.set p.toNat v).take i ++ [(l.set p.toNat v).getD i 0] = (l.set p.toNat v).take (i + 1) := take_snoc _ 0 (by omega)
    simp only [spec_Spoil.l0]
    rw [if_pos (by omega), if_pos (by omega)]
    by_cases hip : (i : Int) = p
    · have e : (l.set p.toNat v).getD i 0 = v := by
        have : p.toNat = i := by omega
        rw [this, List.getD_eq_getElem?_getD, List.getElem?_set_self hi]
        rfl
      rw [if_pos hip, hq]
      simp only [Option.bind_some]
      rw [if_pos (by rw [List.length_take]; omega), wrap_succ (by omega), hip, hv]
      rw [e] at hs
      rw [hs]
    · have e : (l.set p.toNat v).getD i 0 = rd l i := by
        unfold rd
        rw [List.getD_eq_getElem?_getD, List.getElem?_set_ne (by omega), Int.toNat_natCast, List.getD_eq_getElem?_getD]
      rw [if_neg hip, if_pos (by rw [List.length_take]; omega), wrap_succ (by omega)]
      rw [e] at hs
      rw [hs]) (fun k => by
    simp only [spec_Spoil.l0]
    rw [if_neg (by omega), ← hlen, List.take_length]) k hk
  simpa using h

theorem Spoil_ok (l : List Int) (a c : Int) (hl : l.length ≤ 1048576) : ∃ l', l'.length ≤ 1048576 ∧ impl_Spoil.f l a c = some l' ∧ ∀ k, 1048578 < k → spec_Spoil.f k l a c = some l' := by
  by_cases h : (1 : Int) ≤ l.length ∧ (l.length : Int) ≤ 16384
  · obtain ⟨p, hp0, hp, hpi, hps⟩ := mod_both a h.1 (by omega)
    obtain ⟨q, hq0, hq, hqi, hqs⟩ := mod_both c (n := 255) (by omega) (by omega)
    refine ⟨l.set p.toNat (Go.bits .xor .u8 (rd l p) ((wrap64 (1 + q)) % 256)), by rw [List.length_set]; exact hl, ?_, fun k hk => ?_⟩
    · unfold impl_Spoil.f
      rw [within_eq, clone_ok l (by omega)]
      simp only [Option.bind_some]
      rw [hpi, if_pos (decide_eq_true h)]
      simp only [Option.bind_some]
      rw [if_pos hp0, if_pos hp, hqi]
      rfl
    · obtain ⟨k, rfl⟩ : ∃ m, k = m + 1 := ⟨k - 1, by omega⟩
      unfold spec_Spoil.f
      simp only [Option.bind_some]
      rw [if_neg (by omega), decide_eq_false (by omega)]
      simp only [spec_Spoil.j0]
      rw [hps]
      simp only [Option.bind_some]
      rw [if_neg (by decide)]
      exact spoil_loop l c q p hp0 hp hl hqs (by omega)
  · refine ⟨[], by simp, ?_, fun k hk => ?_⟩
    · unfold impl_Spoil.f
      rw [within_eq, decide_eq_false h]
      simp
    · obtain ⟨k, rfl⟩ : ∃ m, k = m + 1 := ⟨k - 1, by omega⟩
      unfold spec_Spoil.f
      simp only [Option.bind_some]
      by_cases h0 : (l.length : Int) = 0
      · rw [if_pos h0]
        simp only [spec_Spoil.j0, if_true]
      · rw [if_neg h0, decide_eq_true (by omega)]
        simp only [spec_Spoil.j0, if_true]

theorem FnExactSpoil : laws_FnExactSpoil.Pure := by
  intro l a c _ _ _ _ _
  refine ⟨1048583, ?_⟩
  unfold laws_FnExactSpoil.f
  by_cases hs : (l.length : Int) > 1048576
  · rw [if_pos hs]
  · rw [if_neg hs]
    obtain ⟨l', hl', hi, hsp⟩ := Spoil_ok l a c (by omega)
    have m1 : laws_markByteS.f 1048583 l 1 = _ := markByteS_ok l 1 (by omega) _ (by omega)
    have m2 : laws_markByteS.f 1048582 l' 1 = _ := markByteS_ok l' 1 (by omega) _ (by omega)
    have hh : laws_heldByteS.f 1048582 (fresh (marksB 1) l' l'.length) 1 = _ := heldByteS_ok l' 1 (by omega) _ (by omega)
    rw [toByteS_ok l (by omega) _ (by omega)]
    simp only [Option.bind_some]
    rw [hsp 1048583 (by omega)]
    simp only [Option.bind_some]
    rw [hi]
    simp only [Option.bind_some]
    rw [eqByteS_ok l' (by omega) _ (by omega), eqByteS_ok l (by omega) _ (by omega), m1]
    simp only [Option.bind_some, if_true]
    rw [if_neg (by omega)]
    simp only [laws_FnExactSpoil.j0, Bool.not_true, if_neg (show ¬ (false = true) by decide)]
    rw [m2]
    simp only [Option.bind_some]
    rw [hh]
    simp only [Option.bind_some]
    rw [if_neg (by omega)]
    simp only [if_true]
    rw [toByteS_ok l (by omega) _ (by omega)]
    simp only [Option.bind_some]
    rw [hi]
    simp only [Option.bind_some]
    rw [eqByteS_ok l' (by omega) _ (by omega)]
    simp only [Option.bind_some, if_true]
    rw [if_neg (by omega)]
end Go.Proofs.Ytmiocbonmknioaa.Pure
