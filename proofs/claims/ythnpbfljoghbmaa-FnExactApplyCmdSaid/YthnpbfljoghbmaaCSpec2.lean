/- The reference's tables: a pair put in its place; a session put in its place. -/
import Derived.Test.YthnpbfljoghbmaaCSpec
namespace Go.Proofs.YthnpbfljoghbmaaA
open Go.Proofs
set_option autoImplicit false
set_option linter.unusedVariables false
set_option linter.unusedSimpArgs false
set_option maxRecDepth 4000
theorem filter_drop {α : Type} {f : α → Bool} {l : List α} {k : Nat} {e : α} (h : l[k]? = some e) : (l.drop k).filter f = (if f e = true then [e] else []) ++ (l.drop (k + 1)).filter f := by
  have hi := (List.getElem?_eq_some_iff.1 h).1
  have e' : l[k] = e := by rw [List.getElem?_eq_getElem hi] at h; exact Option.some.inj h
  rw [List.drop_eq_getElem_cons hi, List.filter_cons, e']
  split <;> rfl
theorem gtT {a c : ByteArray} (h : tlt c a) : (Op.bytesLess a.toList c.toList || decide (a = c)) = false := by
  rw [less_eq]
  have h1 : ¬ tlt a c := fun e => ordT.irr _ (ordT.tr _ _ _ h e)
  have h2 : ¬ a = c := fun e => ordT.irr c (by rw [e] at h; exact h)
  simp [h1, h2]
theorem ngtT {a c : ByteArray} (h : ¬ tlt c a) : (Op.bytesLess a.toList c.toList || decide (a = c)) = true := by
  rw [less_eq]
  rcases ordT.tri a c with h1 | h1 | h1
  · simp [h1]
  · simp [h1]
  · exact absurd h1 h
def withF (s : List Pr) (c : ByteArray) (put : Bool) (v : ByteArray) : List Pr := s.filter (fun b => decide (tlt b.k c)) ++ (if put = true then [⟨c, v⟩] else []) ++ s.filter (fun b => decide (tlt c b.k))
set_option maxHeartbeats 64000000 in
theorem with_tc (s : List Pr) (c : ByteArray) (put : Bool) (v : ByteArray) (hl : s.length ≤ 2097152) : TC Try.prog 146 [ro 2 (s.map Pr.tr), str c, bool put, str v] [] 1 (ro 2 ((withF s c put v).map Pr.tr)) [] 1 := by
  refine tc_intro Try.func146 rfl 61 rfl (Nat.le_of_ble_eq_true rfl) (by decide) [8] rfl (by intro id x h; cases h) ?_
  intro w0 E0
  have kOk := kT1
  have hp := True.intro
  refine wk1 ?_
  refine am_tidy [(1, 1)] [0, 1, 2, 3, 9, 10] 2 rfl ?_
  refine go1 ?_
  clear hp
  refine am_loop (s.length + 1) ?_
  suffices key : ∀ (d k : Nat) (xs : List Pr), k + d = s.length → xs ++ (s.drop k).filter (fun b => decide (tlt b.k c)) = s.filter (fun b => decide (tlt b.k c)) → xs.length ≤ k → amR Try.prog _ _ _ (d + 1) ⟨[(0, ro 2 (s.map Pr.tr)), (1, str c), (2, bool put), (3, str v), (9, .c (.own 1 0 xs.length)), (10, int (k : Nat))], [(1, .arr 206 2 (xs.map Pr.tr))], 2⟩ from key s.length 0 [] (by simp) rfl (by simp)
  intro d
  induction d with
  | zero =>
    intro k xs hk hf hx
    rw [List.drop_eq_nil_of_le (by omega), List.filter_nil, List.append_nil] at hf
    have base := (show (s.map Pr.tr).length = s.length ∧ ((k : Int) < (s.length : Int)) = False from ⟨by simp, eq_false (by omega)⟩)
    refine amR_succ ?_
    cases put with
    | true =>
      have hp := And.intro base (show (xs.length ≤ xs.length) = True ∧ (xs.length ≤ (xs.map Pr.tr).length) = True ∧ (xs.map Pr.tr).take xs.length = xs.map Pr.tr ∧ xs.map Pr.tr ++ [[.v (.string c), .v (.string v)]] = (xs ++ [(⟨c, v⟩ : Pr)]).map Pr.tr ∧ (xs.map Pr.tr).length = xs.length ∧ xs.length + 1 = (xs ++ [(⟨c, v⟩ : Pr)]).length from ⟨eq_true (Nat.le_refl _), eq_true (by simp), List.take_of_length_le (by simp), by simp [Pr.tr], by simp, by simp⟩)
      refine wk1 ?_
      refine am_reg tabOk kOk rfl fun K Q1 hK => ?_
      refine go1 ?_
      refine ⟨by have := base.1; simp; omega, by unfold maxLen; simp; omega, ?_⟩
      refine hK _ ?_
      clear hK K Q1
      refine go1 ?_
      refine wk1 ?_
      refine am_tidy [(3, 1)] [0, 1, 9, 11] 2 rfl ?_
      refine go1 ?_
      clear hp base
      refine am_loop (s.length + 1) ?_
      suffices key2 : ∀ (d k : Nat) (xs : List Pr), k + d = s.length → xs ++ (s.drop k).filter (fun b => decide (tlt c b.k)) = withF s c true v → xs.length ≤ k + s.length + 1 → amR Try.prog _ _ _ (d + 1) ⟨[(0, ro 2 (s.map Pr.tr)), (1, str c), (9, .c (.own 1 0 xs.length)), (11, int (k : Nat))], [(1, .arr 206 2 (xs.map Pr.tr))], 2⟩ from key2 s.length 0 _ (by simp) (by simp [withF, ← hf]) (by simp; omega)
      intro d
      induction d with
      | zero =>
        intro k xs hk hf hx
        rw [List.drop_eq_nil_of_le (by omega), List.filter_nil, List.append_nil] at hf
        subst hf
        have hp := (show (s.map Pr.tr).length = s.length ∧ ((k : Int) < (s.length : Int)) = False ∧ ((withF s c true v).map Pr.tr).length = (withF s c true v).length from ⟨by simp, eq_false (by omega), by simp⟩)
        refine amR_succ ?_
        refine am_frz 1 rfl (Nat.le_of_ble_eq_true rfl) (by decide) ?_
        refine go1 ?_
        refine wk1 ?_
        refine am_retP rfl ?_ rfl
        first | rfl | (refine go ?_; rfl)
      | succ d ih =>
        intro k xs hk hf hx
        obtain ⟨e, he⟩ : ∃ e, s[k]? = some e := ⟨s[k]'(by omega), List.getElem?_eq_getElem (by omega)⟩
        rw [filter_drop he] at hf
        have base := (show (s.map Pr.tr).length = s.length ∧ ((k : Int) < (s.length : Int)) = True ∧ (k < s.length) = True ∧ (s.map Pr.tr)[k]? = some e.tr ∧ IntKind.i64.wrap ((k : Int) + 1) = ((k + 1 : Nat) : Int) from
          ⟨by simp, eq_true (by omega), eq_true (by omega), by rw [List.getElem?_map, he]; rfl, by rw [wrapN (by omega) (by omega)]; rfl⟩)
        obtain ⟨a, w⟩ := e
        simp only [Pr.tr] at base
        refine amR_succ ?_
        by_cases hc : tlt c a
        · have hn : (Op.bytesLess a.toList c.toList || decide (a = c)) = false := gtT hc
          have hp := And.intro base (And.intro hn (show (xs.length ≤ xs.length) = True ∧ (xs.length ≤ (xs.map Pr.tr).length) = True ∧ (xs.map Pr.tr).take xs.length = xs.map Pr.tr ∧ xs.map Pr.tr ++ [[.v (.string a), .v (.string w)]] = (xs ++ [(⟨a, w⟩ : Pr)]).map Pr.tr ∧ (xs.map Pr.tr).length = xs.length from ⟨eq_true (Nat.le_refl _), eq_true (by simp), List.take_of_length_le (by simp), by simp [Pr.tr], by simp⟩))
          have ihk := ih (k + 1) (xs ++ [⟨a, w⟩]) (by omega) (by rw [← hf]; simp [hc]) (by simp; omega)
          rw [List.length_append] at ihk
          clear ih
          refine wk1 ?_
          refine am_reg tabOk kOk rfl fun K Q1 hK => ?_
          refine go1 ?_
          refine ⟨by omega, by unfold maxLen; omega, ?_⟩
          refine hK _ ?_
          clear hK K Q1
          refine go1 ?_
          refine wk1 ?_
          refine amR_tidy [(3, 1)] [0, 1, 9, 11] 2 rfl ?_
          refine go1 ?_
          exact ihk
        · have hn : (Op.bytesLess a.toList c.toList || decide (a = c)) = true := ngtT hc
          have hp := And.intro base hn
          have ihk := ih (k + 1) xs (by omega) (by rw [← hf]; simp [hc]) (by omega)
          clear ih
          refine wk1 ?_
          refine amR_tidy [(1, 1)] [0, 1, 9, 11] 2 rfl ?_
          refine go1 ?_
          exact ihk
    | false =>
      have hp := base
      refine wk1 ?_
      refine am_tidy [(1, 1)] [0, 1, 9, 11] 2 rfl ?_
      refine go1 ?_
      clear hp base
      refine am_loop (s.length + 1) ?_
      suffices key2 : ∀ (d k : Nat) (xs : List Pr), k + d = s.length → xs ++ (s.drop k).filter (fun b => decide (tlt c b.k)) = withF s c false v → xs.length ≤ k + s.length + 1 → amR Try.prog _ _ _ (d + 1) ⟨[(0, ro 2 (s.map Pr.tr)), (1, str c), (9, .c (.own 1 0 xs.length)), (11, int (k : Nat))], [(1, .arr 206 2 (xs.map Pr.tr))], 2⟩ from key2 s.length 0 _ (by simp) (by simp [withF, ← hf]) (by omega)
      intro d
      induction d with
      | zero =>
        intro k xs hk hf hx
        rw [List.drop_eq_nil_of_le (by omega), List.filter_nil, List.append_nil] at hf
        subst hf
        have hp := (show (s.map Pr.tr).length = s.length ∧ ((k : Int) < (s.length : Int)) = False ∧ ((withF s c false v).map Pr.tr).length = (withF s c false v).length from ⟨by simp, eq_false (by omega), by simp⟩)
        refine amR_succ ?_
        refine am_frz 1 rfl (Nat.le_of_ble_eq_true rfl) (by decide) ?_
        refine go1 ?_
        refine wk1 ?_
        refine am_retP rfl ?_ rfl
        first | rfl | (refine go ?_; rfl)
      | succ d ih =>
        intro k xs hk hf hx
        obtain ⟨e, he⟩ : ∃ e, s[k]? = some e := ⟨s[k]'(by omega), List.getElem?_eq_getElem (by omega)⟩
        rw [filter_drop he] at hf
        have base := (show (s.map Pr.tr).length = s.length ∧ ((k : Int) < (s.length : Int)) = True ∧ (k < s.length) = True ∧ (s.map Pr.tr)[k]? = some e.tr ∧ IntKind.i64.wrap ((k : Int) + 1) = ((k + 1 : Nat) : Int) from
          ⟨by simp, eq_true (by omega), eq_true (by omega), by rw [List.getElem?_map, he]; rfl, by rw [wrapN (by omega) (by omega)]; rfl⟩)
        obtain ⟨a, w⟩ := e
        simp only [Pr.tr] at base
        refine amR_succ ?_
        by_cases hc : tlt c a
        · have hn : (Op.bytesLess a.toList c.toList || decide (a = c)) = false := gtT hc
          have hp := And.intro base (And.intro hn (show (xs.length ≤ xs.length) = True ∧ (xs.length ≤ (xs.map Pr.tr).length) = True ∧ (xs.map Pr.tr).take xs.length = xs.map Pr.tr ∧ xs.map Pr.tr ++ [[.v (.string a), .v (.string w)]] = (xs ++ [(⟨a, w⟩ : Pr)]).map Pr.tr ∧ (xs.map Pr.tr).length = xs.length from ⟨eq_true (Nat.le_refl _), eq_true (by simp), List.take_of_length_le (by simp), by simp [Pr.tr], by simp⟩))
          have ihk := ih (k + 1) (xs ++ [⟨a, w⟩]) (by omega) (by rw [← hf]; simp [hc]) (by simp; omega)
          rw [List.length_append] at ihk
          clear ih
          refine wk1 ?_
          refine am_reg tabOk kOk rfl fun K Q1 hK => ?_
          refine go1 ?_
          refine ⟨by omega, by unfold maxLen; omega, ?_⟩
          refine hK _ ?_
          clear hK K Q1
          refine go1 ?_
          refine wk1 ?_
          refine amR_tidy [(3, 1)] [0, 1, 9, 11] 2 rfl ?_
          refine go1 ?_
          exact ihk
        · have hn : (Op.bytesLess a.toList c.toList || decide (a = c)) = true := ngtT hc
          have hp := And.intro base hn
          have ihk := ih (k + 1) xs (by omega) (by rw [← hf]; simp [hc]) (by omega)
          clear ih
          refine wk1 ?_
          refine amR_tidy [(1, 1)] [0, 1, 9, 11] 2 rfl ?_
          refine go1 ?_
          exact ihk
  | succ d ih =>
    intro k xs hk hf hx
    obtain ⟨e, he⟩ : ∃ e, s[k]? = some e := ⟨s[k]'(by omega), List.getElem?_eq_getElem (by omega)⟩
    rw [filter_drop he] at hf
    have base := (show (s.map Pr.tr).length = s.length ∧ ((k : Int) < (s.length : Int)) = True ∧ (k < s.length) = True ∧ (s.map Pr.tr)[k]? = some e.tr ∧ IntKind.i64.wrap ((k : Int) + 1) = ((k + 1 : Nat) : Int) from
      ⟨by simp, eq_true (by omega), eq_true (by omega), by rw [List.getElem?_map, he]; rfl, by rw [wrapN (by omega) (by omega)]; rfl⟩)
    obtain ⟨a, w⟩ := e
    simp only [Pr.tr] at base
    refine amR_succ ?_
    by_cases hc : tlt a c
    · have hn : Op.bytesLess a.toList c.toList = true := by rw [less_eq]; simpa using hc
      have hp := And.intro base (And.intro hn (show (xs.length ≤ xs.length) = True ∧ (xs.length ≤ (xs.map Pr.tr).length) = True ∧ (xs.map Pr.tr).take xs.length = xs.map Pr.tr ∧ xs.map Pr.tr ++ [[.v (.string a), .v (.string w)]] = (xs ++ [(⟨a, w⟩ : Pr)]).map Pr.tr ∧ (xs.map Pr.tr).length = xs.length from ⟨eq_true (Nat.le_refl _), eq_true (by simp), List.take_of_length_le (by simp), by simp [Pr.tr], by simp⟩))
      have ihk := ih (k + 1) (xs ++ [⟨a, w⟩]) (by omega) (by rw [← hf]; simp [hc]) (by simp; omega)
      rw [List.length_append] at ihk
      clear ih
      refine wk1 ?_
      refine am_reg tabOk kOk rfl fun K Q1 hK => ?_
      refine go1 ?_
      refine ⟨by omega, by unfold maxLen; omega, ?_⟩
      refine hK _ ?_
      clear hK K Q1
      refine go1 ?_
      refine wk1 ?_
      refine amR_tidy [(3, 1)] [0, 1, 2, 3, 9, 10] 2 rfl ?_
      refine go1 ?_
      exact ihk
    · have hn : Op.bytesLess a.toList c.toList = false := by rw [less_eq]; simpa using hc
      have hp := And.intro base hn
      have ihk := ih (k + 1) xs (by omega) (by rw [← hf]; simp [hc]) (by omega)
      clear ih
      refine wk1 ?_
      refine amR_tidy [(1, 1)] [0, 1, 2, 3, 9, 10] 2 rfl ?_
      refine go1 ?_
      exact ihk
end Go.Proofs.YthnpbfljoghbmaaA
