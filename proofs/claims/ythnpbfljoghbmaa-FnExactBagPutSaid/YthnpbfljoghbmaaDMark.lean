/- Rows of packets: what the laws write into them, and read again. -/
import Derived.Test.YthnpbfljoghbmaaDPks
namespace Go.Proofs.YthnpbfljoghbmaaA
open Go.Proofs
set_option autoImplicit false
set_option linter.unusedVariables false
set_option linter.unusedSimpArgs false
set_option maxRecDepth 4000
theorem pkSum_len : ∀ l : List Pk, l.length ≤ pkSum l
  | [] => Nat.le_refl _
  | p :: l => by have := pkSum_len l; rw [pkSum_cons, List.length_cons]; omega
set_option maxHeartbeats 16000000 in
theorem markPks_tc (l : List Pk) (k : Int) (h0 : 0 ≤ k) (hk : k + (pkSum l : Nat) ≤ 1099511627776) : TC Try.prog 77 [.c (.own 1 0 l.length), int k] [(1, .nest 44 4 (l.map Pk.nc))] 2 (int (k + (pkSum l : Nat))) [(1, .nest 44 4 ((mkPks l k).map Pk.nc))] 2 := by
  have hl := pkSum_len l
  refine tc_intro Try.func77 rfl 41 rfl (Nat.le_of_ble_eq_true rfl) (by decide) [4] rfl dom1 ?_
  intro w0 E0
  have kOk := kD4
  refine wk ?_
  refine am_tidy [(1, 1)] [0, 1, 5] 2 rfl ?_
  refine go ?_
  refine am_loop (l.length + 1) ?_
  suffices key : ∀ (r : List Pk) (i : Nat) (D : List Pk) (c : Int), D.length = i → i + r.length = l.length → c + (pkSum r : Nat) = k + (pkSum l : Nat) → k ≤ c → D ++ mkPks r c = mkPks l k → amR Try.prog _ _ _ (r.length + 1) ⟨[(0, .c (.own 1 0 l.length)), (1, int c), (5, int (i : Nat))], [(1, .nest 44 4 (D.map Pk.nc ++ r.map Pk.nc))], 2⟩ from key l 0 [] k rfl (by simp) rfl (Int.le_refl _) rfl
  intro r
  induction r with
  | nil =>
    intro i D c hD hi hc hkc hR
    have hp := (show ((i : Int) < (l.length : Int)) = False from eq_false (by simp at hi; omega))
    have hc' : c = k + (pkSum l : Nat) := by simpa [pkSum] using hc
    have hR' : mkPks l k = D := by rw [← hR]; simp [mkPks]
    rw [← hc', hR']
    refine amR_succ ?_
    refine wk1 ?_
    refine am_retB [(1, 1)] rfl ?_ ?_ rfl <;> first | refine go ?_ | rfl | (simp only [go_sem, ↓reduceIte, List.map_cons, List.map_nil]; done) | (simp [go_sem]; done)
  | cons e r ih =>
    intro i D c hD hi hc hkc hR
    have hi1 : i < l.length := by simp at hi; omega
    have hD' : (D.map Pk.nc).length = i := by simpa using hD
    rw [pkSum_cons] at hc
    obtain ⟨a, b, f, v⟩ := e
    simp only at hc
    have ihk := ih (i + 1) (D ++ [⟨c, c + 1, c + 1 + 1, mkBs v.length (c + 1 + 1 + 1)⟩]) (c + 1 + 1 + 1 + (v.length : Nat)) (by simp [hD]) (by simp at hi; omega) (by omega) (by omega) (by rw [List.append_assoc]; exact hR)
    have hp := (show ((i : Int) < (l.length : Int)) = True ∧ (i < l.length) = True ∧ IntKind.i64.wrap ((i : Int) + 1) = ((i + 1 : Nat) : Int) ∧ IntKind.i64.wrap (c + 1) = c + 1 ∧ IntKind.i64.wrap (c + 1 + 1) = c + 1 + 1 ∧ IntKind.i64.wrap (c + 1 + 1 + 1) = c + 1 + 1 + 1 ∧ (0 ≤ c + 1 + 1 + 1) = True ∧ (c + 1 + 1 + 1 + (v.length : Int) ≤ 1099511627776) = True ∧
        (∀ y : List NC, (D.map Pk.nc ++ y :: r.map Pk.nc)[i]? = some y) ∧ (∀ y z : List NC, (D.map Pk.nc ++ y :: r.map Pk.nc).set i z = D.map Pk.nc ++ z :: r.map Pk.nc) from
      ⟨eq_true (by omega), eq_true hi1, by rw [wrapN (by omega) (by omega)]; rfl, wrapN (by omega) (by omega), wrapN (by omega) (by omega), wrapN (by omega) (by omega), eq_true (by omega), eq_true (by omega), fun y => mid_get _ _ hD' y, fun y z => mid_set _ _ hD' y z⟩)
    clear ih
    simp only [List.map_cons, Pk.nc]
    refine amR_succ ?_
    refine wk1 ?_
    refine am_lend 1 i 3 rfl (mid_get _ _ hD' _) rfl ?_
    refine go1 ?_
    refine wk1 ?_
    refine amR_abs 1 i 3 2 rfl (mid_get _ _ hD' _) rfl rfl (by simp [mkBs_len]) ?_
    refine go1 ?_
    refine amR_tidy [(1, 1)] [0, 1, 5] 2 rfl ?_
    refine go1 ?_
    refine amR_st ?_ ihk
    simp [Pk.nc]
set_option maxHeartbeats 16000000 in
theorem heldPks_tc (a : List Pk) (k : Int) (ha : a = mkPks a k) (h0 : 0 ≤ k) (hk : k + (pkSum a : Nat) ≤ 1099511627776) : TC Try.prog 89 [ro 4 (a.map Pk.tr), int k] [] 1 (int (k + (pkSum a : Nat))) [] 1 := by
  have hl := pkSum_len a
  refine tc_intro Try.func89 rfl 49 rfl (Nat.le_of_ble_eq_true rfl) (by decide) [4] rfl (by intro id x h; cases h) ?_
  intro w0 E0
  have kOk := kD4
  refine wk ?_
  refine am_tidy [] [0, 1, 5] 1 rfl ?_
  refine go ?_
  refine am_loop (a.length + 1) ?_
  suffices key : ∀ (r : List Pk) (i : Nat) (c : Int), a.drop i = mkPks r c → i + r.length = a.length → c + (pkSum r : Nat) = k + (pkSum a : Nat) → k ≤ c → amR Try.prog _ _ _ (r.length + 1) ⟨[(0, ro 4 (a.map Pk.tr)), (1, int c), (5, int (i : Nat))], [], 1⟩ from key a 0 k ha (by simp) rfl (Int.le_refl _)
  intro r
  induction r with
  | nil =>
    intro i c hd hi hc hkc
    have hp := (show (a.map Pk.tr).length = a.length ∧ ((i : Int) < (a.length : Int)) = False from ⟨by simp, eq_false (by simp at hi; omega)⟩)
    have hc' : c = k + (pkSum a : Nat) := by simpa [pkSum] using hc
    rw [← hc']
    refine amR_succ ?_
    refine wk1 ?_
    refine am_retP rfl ?_ rfl
    first | rfl | (refine go ?_; rfl)
  | cons e r ih =>
    intro i c hd hi hc hkc
    have hi1 : i < a.length := by simp at hi; omega
    rw [pkSum_cons] at hc
    obtain ⟨p, q, f, v⟩ := e
    simp only at hc
    simp only [mkPks] at hd
    have he : a[i]? = some ⟨c, c + 1, c + 1 + 1, mkBs v.length (c + 1 + 1 + 1)⟩ := by
      have := congrArg List.head? hd
      simpa [List.head?_drop] using this
    have hd2 : a.drop (i + 1) = mkPks r (c + 1 + 1 + 1 + (v.length : Nat)) := by
      rw [← List.tail_drop, hd]; rfl
    have ihk := ih (i + 1) (c + 1 + 1 + 1 + (v.length : Nat)) hd2 (by simp at hi; omega) (by omega) (by omega)
    have hp := (show (a.map Pk.tr).length = a.length ∧ ((i : Int) < (a.length : Int)) = True ∧ (i < a.length) = True ∧ (a.map Pk.tr)[i]? = some [.v (.int .i64 c), .v (.int .i64 (c + 1)), .v (.int .i64 (c + 1 + 1)), .sl 1 ((mkBs v.length (c + 1 + 1 + 1)).map bTr)] ∧ IntKind.i64.wrap ((i : Int) + 1) = ((i + 1 : Nat) : Int) ∧ IntKind.i64.wrap (c + 1) = c + 1 ∧ IntKind.i64.wrap (c + 1 + 1) = c + 1 + 1 ∧ IntKind.i64.wrap (c + 1 + 1 + 1) = c + 1 + 1 + 1 ∧ (0 ≤ c + 1 + 1 + 1) = True ∧ (c + 1 + 1 + 1 + (v.length : Int) ≤ 1099511627776) = True ∧ (c + 1 + 1 + 1 + (v.length : Int) < 0) = False ∧
        (mkBs v.length (c + 1 + 1 + 1)).length = v.length ∧ (∀ x : Int, (x != x) = false) from
      ⟨by simp, eq_true (by omega), eq_true hi1, by rw [List.getElem?_map, he]; rfl, by rw [wrapN (by omega) (by omega)]; rfl, wrapN (by omega) (by omega), wrapN (by omega) (by omega), wrapN (by omega) (by omega), eq_true (by omega), eq_true (by omega), eq_false (by omega), mkBs_len _ _, fun x => by simp⟩)
    clear ih
    refine amR_succ ?_
    refine wk1 ?_
    refine amR_tidy [] [0, 1, 5] 1 rfl ?_
    refine go1 ?_
    exact ihk
end Go.Proofs.YthnpbfljoghbmaaA
