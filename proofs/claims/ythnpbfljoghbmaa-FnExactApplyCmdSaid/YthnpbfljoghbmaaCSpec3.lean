/- The reference's tables: a session put in its place. -/
import Derived.Test.YthnpbfljoghbmaaCSpec2
namespace Go.Proofs.YthnpbfljoghbmaaA
open Go.Proofs
set_option autoImplicit false
set_option linter.unusedVariables false
set_option linter.unusedSimpArgs false
set_option maxRecDepth 4000
def wsGo (u : List Ss) (x : Ss) : Nat → Int → List Ss
  | 0, _ => []
  | n + 1, c => (if c = x.cl then [x] else u.filter (fun b => decide (b.cl = c))) ++ wsGo u x n (c + 1)
def wsF (u : List Ss) (x : Ss) : List Ss := wsGo u x 8 1
set_option maxHeartbeats 64000000 in
theorem ws_tc (u : List Ss) (x : Ss) (hu : u.length ≤ 2097152) : TC Try.prog 147 [ro 4 (u.map Ss.tr), .agg x.cv] [] 1 (ro 4 ((wsF u x).map Ss.tr)) [] 1 := by
  refine tc_intro Try.func147 rfl 42 rfl (Nat.le_of_ble_eq_true rfl) (by decide) [4] rfl (by intro id x h; cases h) ?_
  intro w0 E0
  have kOk := kT1
  obtain ⟨xa, xq, xo, xv⟩ := x
  simp only [Ss.cv]
  have hp := True.intro
  refine wk1 ?_
  refine am_tidy [(1, 1), (2, 2)] [0, 3, 5, 6] 3 rfl ?_
  refine go1 ?_
  clear hp
  refine am_loop 9 ?_
  suffices key : ∀ (n : Nat) (c : Int) (acc : List Ss), c + n = 9 → 1 ≤ c → acc ++ wsGo u ⟨xa, xq, xo, xv⟩ n c = wsF u ⟨xa, xq, xo, xv⟩ → (acc.length : Int) ≤ (c - 1) * 2097153 → amR Try.prog _ _ _ (n + 1) ⟨[(0, ro 4 (u.map Ss.tr)), (3, .c (.ptr 1 0)), (5, .c (.own 2 0 acc.length)), (6, int c)], [(1, .cells [ci xa, ci xq, ci xo, cs xv]), (2, .arr 192 4 (acc.map Ss.tr))], 3⟩ from key 8 1 [] rfl (by omega) rfl (by simp)
  intro n
  induction n with
  | zero =>
    intro c acc hc h1 hf hx
    have hc' : c = 9 := by omega
    subst hc'
    rw [wsGo, List.append_nil] at hf
    subst hf
    have hp := (show ((9 : Int) ≤ 8) = False ∧ ((wsF u ⟨xa, xq, xo, xv⟩).map Ss.tr).length = (wsF u ⟨xa, xq, xo, xv⟩).length from ⟨eq_false (by omega), by simp⟩)
    refine amR_succ ?_
    refine am_frz 2 rfl (Nat.le_of_ble_eq_true rfl) (by decide) ?_
    refine go1 ?_
    refine wk1 ?_
    refine am_retP rfl ?_ rfl
    first | rfl | (refine go ?_; rfl)
  | succ n ih =>
    intro c acc hc h1 hf hx
    rw [wsGo] at hf
    have base := (show (c ≤ 8) = True ∧ IntKind.i64.wrap (c + 1) = c + 1 ∧ (u.map Ss.tr).length = u.length ∧ (acc.length ≤ acc.length) = True ∧ (acc.length ≤ (acc.map Ss.tr).length) = True ∧ (acc.map Ss.tr).take acc.length = acc.map Ss.tr ∧ (acc.map Ss.tr).length = acc.length from
      ⟨eq_true (by omega), wrapN (by omega) (by omega), by simp, eq_true (Nat.le_refl _), eq_true (by simp), List.take_of_length_le (by simp), by simp⟩)
    refine amR_succ ?_
    by_cases hcx : c = xa
    · subst hcx
      have hp := And.intro base (show (c == c) = true ∧ acc.map Ss.tr ++ [[.v (.int .i64 c), .v (.int .i64 xq), .v (.int .i64 xo), .v (.string xv)]] = (acc ++ [(⟨c, xq, xo, xv⟩ : Ss)]).map Ss.tr from ⟨by simp, by simp [Ss.tr]⟩)
      have ihk := ih (c + 1) (acc ++ [(⟨c, xq, xo, xv⟩ : Ss)]) (by omega) (by omega) (by rw [← hf]; simp) (by simp; omega)
      rw [List.length_append] at ihk
      clear ih
      refine wk1 ?_
      refine am_rs tabOk kOk rfl fun K Q1 hK => ?_
      refine go1 ?_
      refine ⟨by omega, by unfold maxLen; omega, ?_⟩
      refine hK _ ?_
      clear hK K Q1
      refine go1 ?_
      refine wk1 ?_
      refine amR_tidy [(1, 1), (4, 2)] [0, 3, 5, 6] 3 rfl ?_
      refine go1 ?_
      exact ihk
    · have hp := And.intro base (show (c == xa) = false from by simpa using hcx)
      refine wk1 ?_
      refine am_tidy [(1, 1), (2, 2)] [0, 3, 5, 6, 7] 3 rfl ?_
      refine go1 ?_
      refine am_loop (u.length + 1) ?_
      rw [if_neg hcx] at hf
      have b1 := base.1
      have b2 := base.2.1
      clear hp base
      suffices key2 : ∀ (d k : Nat) (xs : List Ss), k + d = u.length → xs ++ (u.drop k).filter (fun b => decide (b.cl = c)) ++ wsGo u ⟨xa, xq, xo, xv⟩ n (c + 1) = wsF u ⟨xa, xq, xo, xv⟩ → xs.length ≤ acc.length + k → amR Try.prog _ _ _ (d + 1) ⟨[(0, ro 4 (u.map Ss.tr)), (3, .c (.ptr 1 0)), (5, .c (.own 2 0 xs.length)), (6, int c), (7, int (k : Nat))], [(1, .cells [ci xa, ci xq, ci xo, cs xv]), (2, .arr 192 4 (xs.map Ss.tr))], 3⟩ from key2 u.length 0 acc (by simp) (by rw [← hf]; simp) (by simp)
      intro d
      induction d with
      | zero =>
        intro k xs hk hg hxs
        rw [List.drop_eq_nil_of_le (by omega), List.filter_nil, List.append_nil] at hg
        have hp := (show (u.map Ss.tr).length = u.length ∧ ((k : Int) < (u.length : Int)) = False ∧ IntKind.i64.wrap (c + 1) = c + 1 from ⟨by simp, eq_false (by omega), b2⟩)
        have ihk := ih (c + 1) xs (by omega) (by omega) hg (by omega)
        clear ih
        refine amR_succ ?_
        refine wk1 ?_
        refine amR_tidy [(1, 1), (2, 2)] [0, 3, 5, 6] 3 rfl ?_
        refine go1 ?_
        exact ihk
      | succ d ih2 =>
        intro k xs hk hg hxs
        obtain ⟨e, he⟩ : ∃ e, u[k]? = some e := ⟨u[k]'(by omega), List.getElem?_eq_getElem (by omega)⟩
        rw [filter_drop he] at hg
        have base := (show (u.map Ss.tr).length = u.length ∧ ((k : Int) < (u.length : Int)) = True ∧ (k < u.length) = True ∧ (u.map Ss.tr)[k]? = some e.tr ∧ IntKind.i64.wrap ((k : Int) + 1) = ((k + 1 : Nat) : Int) from
          ⟨by simp, eq_true (by omega), eq_true (by omega), by rw [List.getElem?_map, he]; rfl, by rw [wrapN (by omega) (by omega)]; rfl⟩)
        obtain ⟨a, q, o, w⟩ := e
        simp only [Ss.tr] at base
        refine amR_succ ?_
        by_cases hca : a = c
        · have hp := And.intro base (show (a == c) = true ∧ (xs.length ≤ xs.length) = True ∧ (xs.length ≤ (xs.map Ss.tr).length) = True ∧ (xs.map Ss.tr).take xs.length = xs.map Ss.tr ∧ xs.map Ss.tr ++ [[.v (.int .i64 a), .v (.int .i64 q), .v (.int .i64 o), .v (.string w)]] = (xs ++ [(⟨a, q, o, w⟩ : Ss)]).map Ss.tr ∧ (xs.map Ss.tr).length = xs.length from
            ⟨by simpa using hca, eq_true (Nat.le_refl _), eq_true (by simp), List.take_of_length_le (by simp), by simp [Ss.tr], by simp⟩)
          have ihk := ih2 (k + 1) (xs ++ [(⟨a, q, o, w⟩ : Ss)]) (by omega) (by rw [← hg]; simp [hca]) (by simp; omega)
          rw [List.length_append] at ihk
          clear ih ih2
          refine wk1 ?_
          refine am_reg tabOk kOk rfl fun K Q1 hK => ?_
          refine go1 ?_
          have hacc : (acc.length : Int) ≤ 8 * 2097153 := by
            have : (c - 1) * 2097153 ≤ 8 * 2097153 := Int.mul_le_mul_of_nonneg_right (by omega) (by omega)
            omega
          refine ⟨by omega, by unfold maxLen; omega, ?_⟩
          refine hK _ ?_
          clear hK K Q1
          refine go1 ?_
          refine wk1 ?_
          refine amR_tidy [(1, 1), (4, 2)] [0, 3, 5, 6, 7] 3 rfl ?_
          refine go1 ?_
          exact ihk
        · have hp := And.intro base (show (a == c) = false from by simpa using hca)
          have ihk := ih2 (k + 1) xs (by omega) (by rw [← hg]; simp [hca]) (by omega)
          clear ih ih2
          refine wk1 ?_
          refine amR_tidy [(1, 1), (2, 2)] [0, 3, 5, 6, 7] 3 rfl ?_
          refine go1 ?_
          exact ihk
end Go.Proofs.YthnpbfljoghbmaaA
