/- Plain facts about loops and lists, for the pure statements of several laws: no program in sight. -/
import Derived.Test.YtnbcpiaajckoaaaMath
import Derived.Test.YtnbcpiaajckoaaaWMore
import Derived.Lib.Strings
namespace Go.Proofs.Ytnbcpiaajckoaaa.Mth
open Go.RowKit Go.Proofs.YtnbcpiaajckoaaaW.PrintWords Go.Proofs.YtnbcpiaajckoaaaW.PrintMore

theorem wrap_nat {n : Nat} (h : n ≤ 9223372036854775807) : wrap64 (n : Int) = n := wrap64_id (by omega) (by omega)
theorem wrap_succ {n : Nat} (h : n < 9223372036854775807) : wrap64 ((n : Int) + 1) = ((n + 1 : Nat) : Int) := by
  rw [wrap64_id (by omega) (by omega)]; omega

/-- A loop that comes to its end by n rounds, whatever is asked of its states. -/
theorem loop_inv {σ ρ : Type} (F : Nat → σ → Option ρ) (n : Nat) (I : Nat → σ → Prop) (Q : ρ → Prop)
    (hs : ∀ i s, i < n → I i s → ∃ s', I (i + 1) s' ∧ ∀ k, F (k + 1) s = F k s')
    (hd : ∀ s, I n s → ∃ r, Q r ∧ ∀ k, F (k + 1) s = some r) (s : σ) (h0 : I 0 s) : ∃ r, Q r ∧ ∀ k, n < k → F k s = some r := by
  suffices h : ∀ d i s, i + d = n → I i s → ∃ r, Q r ∧ ∀ k, d < k → F k s = some r by
    exact h n 0 s (by omega) h0
  intro d
  induction d with
  | zero =>
    intro i s hi hI
    obtain rfl : i = n := by omega
    obtain ⟨r, hq, hr⟩ := hd s hI
    refine ⟨r, hq, fun k hk => ?_⟩
    obtain ⟨k, rfl⟩ : ∃ m, k = m + 1 := ⟨k - 1, by omega⟩
    exact hr k
  | succ d ih =>
    intro i s hi hI
    obtain ⟨s', hI', hF⟩ := hs i s (by omega) hI
    obtain ⟨r, hq, hr⟩ := ih (i + 1) s' (by omega) hI'
    refine ⟨r, hq, fun k hk => ?_⟩
    obtain ⟨k, rfl⟩ : ∃ m, k = m + 1 := ⟨k - 1, by omega⟩
    rw [hF]
    exact hr k (by omega)

/-- The same with the states written out. -/
theorem loop_up {σ ρ : Type} (F : Nat → σ → Option ρ) (n : Nat) (S : Nat → σ) (r : ρ)
    (hs : ∀ i, i < n → ∀ k, F (k + 1) (S i) = F k (S (i + 1))) (hd : ∀ k, F (k + 1) (S n) = some r) : ∀ k, n < k → F k (S 0) = some r := by
  obtain ⟨r', rfl, h⟩ := loop_inv F n (fun i s => s = S i) (fun x => x = r) (fun i s hi e => ⟨S (i + 1), rfl, by subst e; exact hs i hi⟩) (fun s e => ⟨r, rfl, by subst e; exact hd⟩) (S 0) rfl
  exact h

theorem set_fill {α : Type} (l : List α) (z d : α) {i : Nat} (h : i < l.length) :
    (l.take i ++ List.replicate (l.length - i) z).set i (l.getD i d) = l.take (i + 1) ++ List.replicate (l.length - (i + 1)) z := by
  rw [List.set_append_right _ _ (by rw [List.length_take]; omega)]
  have e1 : i - (l.take i).length = 0 := by rw [List.length_take]; omega
  have e2 : l.length - i = (l.length - (i + 1)) + 1 := by omega
  rw [e1, e2, List.replicate_succ, List.set_cons_zero, List.take_succ_eq_append_getElem h, List.append_assoc, List.getD_eq_getElem?_getD, List.getElem?_eq_getElem h]
  rfl

theorem take_snoc {α : Type} (l : List α) (d : α) {i : Nat} (h : i < l.length) : l.take i ++ [l.getD i d] = l.take (i + 1) := by
  rw [List.take_succ_eq_append_getElem h, List.getD_eq_getElem?_getD, List.getElem?_eq_getElem h]
  rfl

/-- The first i elements put anew, one by one. -/
def fresh (f : Nat → Int) (l : List Int) (i : Nat) : List Int := (List.range i).map f ++ l.drop i
theorem fresh_zero (f : Nat → Int) (l : List Int) : fresh f l 0 = l := by simp [fresh]
theorem fresh_len (f : Nat → Int) (l : List Int) {i : Nat} (h : i ≤ l.length) : (fresh f l i).length = l.length := by
  simp only [fresh, List.length_append, List.length_map, List.length_range, List.length_drop]; omega
theorem fresh_set (f : Nat → Int) (l : List Int) {i : Nat} (h : i < l.length) : (fresh f l i).set i (f i) = fresh f l (i + 1) := by
  unfold fresh
  rw [List.set_append_right _ _ (by simp)]
  have e1 : i - ((List.range i).map f).length = 0 := by simp
  rw [e1, List.drop_eq_getElem_cons h, List.set_cons_zero, List.range_succ, List.map_append, List.append_assoc]
  rfl
theorem fresh_get (f : Nat → Int) (l : List Int) {i : Nat} (h : i < l.length) (d : Int) : (fresh f l l.length).getD i d = f i := by
  simp [fresh, List.getD_eq_getElem?_getD, h]

/-- The number of the first that is false, counted from i + 1; 0 if none is. -/
def fb : List Bool → Nat → Int
  | [], _ => 0
  | b :: l, i => if b = true then fb l (i + 1) else ((i + 1 : Nat) : Int)

theorem beq_nil (s : ByteArray) : (s.toList == ([] : List UInt8)) = decide ((s.size : Int) = 0) := by
  have e : s.toList.length = s.size := by rw [Go.Lib.toList_data]; exact data_length s
  cases h : s.toList with
  | nil => rw [h] at e; rw [decide_eq_true (by simp only [List.length_nil] at e; omega)]; rfl
  | cons a t => rw [h] at e; rw [decide_eq_false (by simp only [List.length_cons] at e; omega)]; rfl
end Go.Proofs.Ytnbcpiaajckoaaa.Mth
