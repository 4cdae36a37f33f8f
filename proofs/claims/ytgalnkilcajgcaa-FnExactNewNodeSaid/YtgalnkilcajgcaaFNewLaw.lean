/- A new node: the law holds at every argument. -/
import Derived.Test.YtgalnkilcajgcaaFNewL
namespace Go.Proofs.YtgalnkilcajgcaaA
open Go.Proofs
set_option autoImplicit false
set_option linter.unusedVariables false
set_option linter.unusedSimpArgs false
set_option maxRecDepth 4000
theorem szEs_len {l : List Ent} (h : l.length ≤ maxLen) (h2 : ¬ szEsF l 1048576 < 0) : l.length ≤ 1048576 := by
  unfold maxLen at h
  unfold szEsF at h2
  split at h2
  · omega
  · rename_i h3
    rw [IntKind.wrap_i64] at h3
    omega
set_option maxHeartbeats 32000000 in
theorem lawNew_tc (a b c d : Int) (s : Stb) (dr : Int) (hl : s.log.length ≤ maxLen) : TC Try.prog 9 [int a, int b, int c, int d, .agg s.cv, int dr] [] 1 (bool true) [] 1 := by
  refine tc_intro Try.func9 rfl 94 rfl (Nat.le_of_ble_eq_true rfl) (by decide) [12] rfl (by intro id x h; cases h) ?_
  intro w0 E0
  have kOk := k23
  obtain ⟨t, v, l⟩ := s
  have hl' : l.length ≤ maxLen := hl
  have hx : ∀ x : Int, (x != x) = false := fun x => by simp
  have h01 : ((0 : Int) ≤ 1) = True := by simp
  simp only [Stb.cv]
  by_cases hs : szEsF l 1048576 < 0
  · have hp := (show (l.length ≤ maxLen) = True ∧ (szEsF l 1048576 < 0) = True ∧ ((-1 : Int) < 0) = True from ⟨eq_true hl', eq_true hs, by simp⟩)
    repeat' first
      | (refine guardP_mk (fun h => ?_) (fun h => ?_) <;> (refine go1 ?_; try simp only [decide_eq_true_eq, decide_eq_false_iff_not, Bool.not_true, Bool.not_false, Bool.not_eq_true', Bool.not_eq_false', beq_iff_eq, bne_iff_ne, beq_eq_false_iff_ne, bne_eq_false_iff_eq, ne_eq, Bool.false_eq_true, reduceCtorEq] at h))
      | (refine hK _ ?_; clear hK K Q1)
      | (refine hK _ _ rfl ?_; clear hK K; try refine go1 ?_)
      | (refine am_retP rfl ?_ rfl; first | refine go ?_ | rfl)
      | (refine am_retC [] rfl ?_ rfl rfl; first | refine go ?_ | rfl)
      | (refine wkq ?_)
      | (refine am_rs tabOk kOk rfl fun K Q1 hK => ?_; refine go1 ?_)
      | (refine am_ds mixed tabOk kOk rfl rfl fun K hK => ?_; refine go1 ?_)
      | (refine am_dreg mixed tabOk kOk rfl rfl fun K hK => ?_; refine go1 ?_)
    all_goals rfl
  · have h20 := szEs_len hl' hs
    have hn : (szEsF l 1048576 < 0) = False := eq_false hs
    have hm : (1 + 7 * (l.length : Int) ≤ 1099511627776) = True := eq_true (by omega)
    have hq : (1 + 7 * (l.length : Int) < 0) = False := eq_false (by omega)
    by_cases hk : newOk a b c d ⟨t, v, l⟩ = true
    · have hp := (show (l.length ≤ maxLen) = True ∧ (szEsF l 1048576 < 0) = False ∧ (l.length ≤ 1048576) = True ∧ newOk a b c d ⟨t, v, l⟩ = true ∧ (∀ x : Int, (x != x) = false) ∧ ((0 : Int) ≤ 1) = True ∧ (1 + 7 * (l.length : Int) ≤ 1099511627776) = True ∧ (1 + 7 * (l.length : Int) < 0) = False ∧ (mkEs l.length 1).length = l.length from ⟨eq_true hl', hn, eq_true h20, hk, hx, h01, hm, hq, mkEs_len _ _⟩)
      repeat' first
        | (refine guardP_mk (fun h => ?_) (fun h => ?_) <;> (refine go1 ?_; try simp only [decide_eq_true_eq, decide_eq_false_iff_not, Bool.not_true, Bool.not_false, Bool.not_eq_true', Bool.not_eq_false', beq_iff_eq, bne_iff_ne, beq_eq_false_iff_ne, bne_eq_false_iff_eq, ne_eq, Bool.false_eq_true, reduceCtorEq] at h))
        | (refine hK _ ?_; clear hK K Q1)
        | (refine hK _ _ rfl ?_; clear hK K; try refine go1 ?_)
        | (refine am_retP rfl ?_ rfl; first | refine go ?_ | rfl)
        | (refine am_retC [] rfl ?_ rfl rfl; first | refine go ?_ | rfl)
        | (refine wkq ?_)
        | (refine am_rs tabOk kOk rfl fun K Q1 hK => ?_; refine go1 ?_)
        | (refine am_ds mixed tabOk kOk rfl rfl fun K hK => ?_; refine go1 ?_)
        | (refine am_dreg mixed tabOk kOk rfl rfl fun K hK => ?_; refine go1 ?_)
      all_goals rfl
    · have hk' : newOk a b c d ⟨t, v, l⟩ = false := by simpa using hk
      have hp := (show (l.length ≤ maxLen) = True ∧ (szEsF l 1048576 < 0) = False ∧ (l.length ≤ 1048576) = True ∧ newOk a b c d ⟨t, v, l⟩ = false ∧ (∀ x : Int, (x != x) = false) ∧ ((0 : Int) ≤ 1) = True ∧ (1 + 7 * (l.length : Int) ≤ 1099511627776) = True ∧ (1 + 7 * (l.length : Int) < 0) = False ∧ ((1 : Int) < 0) = False from ⟨eq_true hl', hn, eq_true h20, hk', hx, h01, hm, hq, by simp⟩)
      repeat' first
        | (refine guardP_mk (fun h => ?_) (fun h => ?_) <;> (refine go1 ?_; try simp only [decide_eq_true_eq, decide_eq_false_iff_not, Bool.not_true, Bool.not_false, Bool.not_eq_true', Bool.not_eq_false', beq_iff_eq, bne_iff_ne, beq_eq_false_iff_ne, bne_eq_false_iff_eq, ne_eq, Bool.false_eq_true, reduceCtorEq] at h))
        | (refine hK _ ?_; clear hK K Q1)
        | (refine hK _ _ rfl ?_; clear hK K; try refine go1 ?_)
        | (refine am_retP rfl ?_ rfl; first | refine go ?_ | rfl)
        | (refine am_retC [] rfl ?_ rfl rfl; first | refine go ?_ | rfl)
        | (refine wkq ?_)
        | (refine am_rs tabOk kOk rfl fun K Q1 hK => ?_; refine go1 ?_)
        | (refine am_ds mixed tabOk kOk rfl rfl fun K hK => ?_; refine go1 ?_)
        | (refine am_dreg mixed tabOk kOk rfl rfl fun K hK => ?_; refine go1 ?_)
      all_goals rfl
end Go.Proofs.YtgalnkilcajgcaaA
