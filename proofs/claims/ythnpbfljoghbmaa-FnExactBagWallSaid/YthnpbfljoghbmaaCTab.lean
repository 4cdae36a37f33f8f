/- Tables: what a map told by its entries holds, as a list of pairs or of sessions; lists in the order of their keys. -/
import Derived.Test.YthnpbfljoghbmaaFBase
import Derived.Sort.Walk0
namespace Go.Proofs.YthnpbfljoghbmaaA
open Go.Proofs
set_option autoImplicit false
set_option linter.unusedVariables false
set_option linter.unusedSimpArgs false
set_option maxRecDepth 4000
structure Pr where
  k : ByteArray
  v : ByteArray
  deriving DecidableEq
structure Ss where
  cl : Int
  sq : Int
  co : Int
  v : ByteArray
  deriving DecidableEq
def Pr.tr (p : Pr) : List Tree := [.v (.string p.k), .v (.string p.v)]
def Ss.tr (s : Ss) : List Tree := [.v (.int .i64 s.cl), .v (.int .i64 s.sq), .v (.int .i64 s.co), .v (.string s.v)]
def entP (p : Pr) : Value × Value := (.string p.k, .string p.v)
def entS (s : Ss) : Value × Value := (.int .i64 s.cl, .agg #[.int .i64 s.cl, .int .i64 s.sq, .int .i64 s.co, .string s.v])
/-! ### A map told by its entries -/
section
variable {α : Type}
def tset (f : α → Bool) (a : α) : List α → List α
  | [] => [a]
  | b :: l => if f b = true then a :: l else b :: tset f a l
def tdel (f : α → Bool) : List α → List α
  | [] => []
  | b :: l => if f b = true then l else b :: tdel f l
theorem mfind_shift (k : Value) : ∀ (es : List (Value × Value)) (i : Nat), mfind k es (i + 1) = (mfind k es i).map fun p => (p.1 + 1, p.2)
  | [], i => rfl
  | p :: es, i => by
    simp only [mfind]
    split
    · rfl
    · exact mfind_shift k es (i + 1)
theorem mset_cons (k v : Value) (p : Value × Value) (es : List (Value × Value)) : mset k v (p :: es) = if sameK k p.1 = true then (k, v) :: es else p :: mset k v es := by
  unfold mset
  simp only [mfind]
  by_cases h : sameK k p.1 = true
  · simp only [if_pos h]; rfl
  · simp only [if_neg h, mfind_shift k es 0]
    cases mfind k es 0 with
    | none => rfl
    | some r => rfl
theorem mdel_cons (k : Value) (p : Value × Value) (es : List (Value × Value)) : mdel k (p :: es) = if sameK k p.1 = true then es else p :: mdel k es := by
  unfold mdel
  simp only [mfind]
  by_cases h : sameK k p.1 = true
  · simp only [if_pos h]; rfl
  · simp only [if_neg h, mfind_shift k es 0]
    cases mfind k es 0 with
    | none => rfl
    | some r => rfl
variable (ent : α → Value × Value)
theorem mset_map {k v : Value} {f : α → Bool} {a : α} (ha : ent a = (k, v)) (hf : ∀ b, f b = sameK k (ent b).1) : ∀ l : List α, mset k v (l.map ent) = (tset f a l).map ent
  | [] => by simp [mset, mfind, tset, ha]
  | b :: l => by
    simp only [List.map_cons, mset_cons, tset, hf b]
    split
    · simp [ha]
    · simp [mset_map ha hf l]
theorem mdel_map {k : Value} {f : α → Bool} (hf : ∀ b, f b = sameK k (ent b).1) : ∀ l : List α, mdel k (l.map ent) = (tdel f l).map ent
  | [] => rfl
  | b :: l => by
    simp only [List.map_cons, mdel_cons, tdel, hf b]
    split
    · rfl
    · simp [mdel_map hf l]
theorem mfind_map {k : Value} {f : α → Bool} (hf : ∀ b, f b = sameK k (ent b).1) : ∀ (l : List α) (i : Nat), (l.find? f = none → mfind k (l.map ent) i = none) ∧ ∀ a, l.find? f = some a → ∃ j, mfind k (l.map ent) i = some (j, (ent a).2)
  | [], i => ⟨fun _ => rfl, fun a h => by cases h⟩
  | b :: l, i => by
    have ih := mfind_map hf l (i + 1)
    simp only [List.find?_cons, List.map_cons, mfind, ← hf b]
    cases f b with
    | true => exact ⟨(fun h => by cases h), (fun a h => by cases h; exact ⟨i, rfl⟩)⟩
    | false => exact ih
end
/-! ### Lists in the order of their keys -/
section
variable {α κ : Type} (key : α → κ) (lt : κ → κ → Prop)
structure Ord : Prop where
  irr : ∀ x, ¬ lt x x
  tr : ∀ x y z, lt x y → lt y z → lt x z
  tri : ∀ x y, lt x y ∨ x = y ∨ lt y x
def Sorted (s : List α) : Prop := s.Pairwise fun a b => lt (key a) (key b)
/-- The list l holds what s holds, and s stands in the order of the keys. -/
structure Rp (l s : List α) : Prop where
  perm : l.Perm s
  srt : Sorted key lt s
variable {key lt}
theorem Rp.ne {l s : List α} (o : Ord lt) (h : Rp key lt l s) : l.Pairwise fun a b => key a ≠ key b := by
  have h1 : s.Pairwise fun a b => key a ≠ key b := List.Pairwise.imp (R := fun a b => lt (key a) (key b)) (fun {a b} hab (e : key a = key b) => o.irr (key b) (by rw [e] at hab; exact hab)) h.srt
  exact (h.perm.symm.pairwise_iff fun {_ _} hne => Ne.symm hne).1 h1
theorem find_iff [DecidableEq κ] {l : List α} (hl : l.Pairwise fun a b => key a ≠ key b) (k : κ) (a : α) : l.find? (fun b => decide (k = key b)) = some a ↔ a ∈ l ∧ k = key a := by
  induction l with
  | nil => simp
  | cons b l ih =>
    rw [List.pairwise_cons] at hl
    have ih := ih hl.2
    rw [List.find?_cons]
    by_cases h : k = key b
    · simp only [h, decide_true, Option.some.injEq, List.mem_cons]
      constructor
      · rintro rfl; exact ⟨.inl rfl, rfl⟩
      · rintro ⟨rfl | h1, h2⟩
        · rfl
        · exact absurd h2 (hl.1 a h1)
    · simp only [h, decide_false, List.mem_cons]
      rw [ih]
      constructor
      · rintro ⟨h1, h2⟩; exact ⟨.inr h1, h2⟩
      · rintro ⟨rfl | h1, h2⟩
        · exact absurd h2 h
        · exact ⟨h1, h2⟩
theorem Rp.find [DecidableEq κ] {l s : List α} (o : Ord lt) (h : Rp key lt l s) (k : κ) : l.find? (fun b => decide (k = key b)) = s.find? (fun b => decide (k = key b)) := by
  have h1 := find_iff (h.ne o) k
  have h2 := find_iff (key := key) (Rp.ne o ⟨List.Perm.refl s, h.srt⟩) k
  cases h3 : s.find? (fun b => decide (k = key b)) with
  | some a =>
    have h4 := (h2 a).1 h3
    exact (h1 a).2 ⟨h.perm.mem_iff.2 h4.1, h4.2⟩
  | none =>
    cases h5 : l.find? (fun b => decide (k = key b)) with
    | none => rfl
    | some a =>
      have h4 := (h1 a).1 h5
      rw [(h2 a).2 ⟨h.perm.mem_iff.1 h4.1, h4.2⟩] at h3
      cases h3
/-- Below the key; above it. -/
theorem split_srt [DecidableEq κ] [∀ x y, Decidable (lt x y)] {s : List α} (o : Ord lt) (h : Sorted key lt s) (k : κ) : s.filter (fun b => !decide (k = key b)) = s.filter (fun b => decide (lt (key b) k)) ++ s.filter (fun b => decide (lt k (key b))) := by
  induction s with
  | nil => rfl
  | cons b s ih =>
    unfold Sorted at h
    rw [List.pairwise_cons] at h
    rw [List.filter_cons, List.filter_cons, List.filter_cons]
    rcases o.tri (key b) k with h1 | h1 | h1
    · have h2 : ¬ k = key b := fun e => o.irr k (by rw [← e] at h1; exact h1)
      have h3 : ¬ lt k (key b) := fun e => o.irr _ (o.tr _ _ _ e h1)
      simp [h1, h2, h3, ih h.2]
    · subst h1
      have h2 : s.filter (fun c => decide (lt (key c) (key b))) = [] := by
        rw [List.filter_eq_nil_iff]
        intro c hc
        simpa using fun e => o.irr _ (o.tr _ _ _ e (h.1 c hc))
      have h4 := ih h.2
      rw [h2] at h4
      simp [o.irr, h2, h4]
    · have h2 : ¬ k = key b := fun e => o.irr k (by rw [← e] at h1; exact h1)
      have h3 : ¬ lt (key b) k := fun e => o.irr _ (o.tr _ _ _ e h1)
      have h4 : s.filter (fun c => decide (lt (key c) k)) = [] := by
        rw [List.filter_eq_nil_iff]
        intro c hc
        simpa using fun e => o.irr _ (o.tr _ _ _ (o.tr _ _ _ h1 (h.1 c hc)) e)
      have h5 := ih h.2
      rw [h4] at h5
      simp [h1, h2, h3, h4, h5]
theorem tset_perm [DecidableEq κ] {l : List α} (k : κ) (a : α) (h : l.Pairwise fun a b => key a ≠ key b) : (tset (fun b => decide (k = key b)) a l).Perm (a :: l.filter fun b => !decide (k = key b)) := by
  induction l with
  | nil => exact .refl _
  | cons b l ih =>
    rw [List.pairwise_cons] at h
    simp only [tset]
    by_cases hk : k = key b
    · have h1 : l.filter (fun b => !decide (k = key b)) = l := by
        rw [List.filter_eq_self]
        intro c hc
        simpa using fun e => h.1 c hc (hk.symm.trans e)
      rw [if_pos (by simpa using hk), List.filter_cons, if_neg (by simpa using hk), h1]
    · rw [if_neg (by simpa using hk), List.filter_cons, if_pos (by simpa using hk)]
      exact ((ih h.2).cons b).trans (.swap _ _ _)
theorem tdel_eq [DecidableEq κ] {l : List α} (k : κ) (h : l.Pairwise fun a b => key a ≠ key b) : tdel (fun b => decide (k = key b)) l = l.filter fun b => !decide (k = key b) := by
  induction l with
  | nil => rfl
  | cons b l ih =>
    rw [List.pairwise_cons] at h
    simp only [tdel]
    by_cases hk : k = key b
    · have h1 : l.filter (fun b => !decide (k = key b)) = l := by
        rw [List.filter_eq_self]
        intro c hc
        simpa using fun e => h.1 c hc (hk.symm.trans e)
      rw [if_pos (by simpa using hk), List.filter_cons, if_neg (by simpa using hk), h1]
    · rw [if_neg (by simpa using hk), List.filter_cons, if_pos (by simpa using hk), ih h.2]
theorem srt_with [∀ x y, Decidable (lt x y)] {s : List α} (o : Ord lt) (h : Sorted key lt s) (m : List α) (k : κ) (hm : Sorted key lt m) (hk : ∀ a, a ∈ m → key a = k) : Sorted key lt (s.filter (fun b => decide (lt (key b) k)) ++ m ++ s.filter (fun b => decide (lt k (key b)))) := by
  unfold Sorted at *
  rw [List.pairwise_append, List.pairwise_append]
  refine ⟨⟨h.filter _, hm, ?_⟩, h.filter _, ?_⟩
  · intro a ha b hb
    rw [hk b hb]
    simpa using (List.mem_filter.1 ha).2
  · intro a ha b hb
    have h1 : lt k (key b) := by simpa using (List.mem_filter.1 hb).2
    rcases List.mem_append.1 ha with ha | ha
    · exact o.tr _ _ _ (by simpa using (List.mem_filter.1 ha).2) h1
    · rw [hk a ha]; exact h1
theorem Rp.set [DecidableEq κ] [∀ x y, Decidable (lt x y)] {l s : List α} (o : Ord lt) (h : Rp key lt l s) (a : α) : Rp key lt (tset (fun b => decide (key a = key b)) a l) (s.filter (fun b => decide (lt (key b) (key a))) ++ [a] ++ s.filter (fun b => decide (lt (key a) (key b)))) where
  perm := by
    refine (tset_perm (key a) a (h.ne o)).trans ?_
    refine ((h.perm.filter _).cons a).trans ?_
    rw [split_srt o h.srt (key a), List.append_assoc]
    exact List.perm_middle.symm
  srt := srt_with o h.srt [a] (key a) (List.pairwise_singleton _ _) fun b hb => by rw [List.mem_singleton.1 hb]
theorem Rp.del [DecidableEq κ] [∀ x y, Decidable (lt x y)] {l s : List α} (o : Ord lt) (h : Rp key lt l s) (k : κ) : Rp key lt (tdel (fun b => decide (k = key b)) l) (s.filter (fun b => decide (lt (key b) k)) ++ s.filter (fun b => decide (lt k (key b)))) where
  perm := by
    rw [tdel_eq k (h.ne o), ← split_srt o h.srt k]
    exact h.perm.filter _
  srt := by
    have := srt_with o h.srt [] k List.Pairwise.nil (fun a ha => by cases ha)
    rwa [List.append_nil] at this
/-- One after the other, in their order: each goes behind. -/
theorem tset_snoc [DecidableEq κ] {l : List α} {a : α} (h : ∀ b, b ∈ l → key a ≠ key b) : tset (fun b => decide (key a = key b)) a l = l ++ [a] := by
  induction l with
  | nil => rfl
  | cons b l ih =>
    simp only [tset]
    rw [if_neg (by simpa using h b List.mem_cons_self), ih fun c hc => h c (List.mem_cons_of_mem _ hc)]
    rfl
theorem foldl_set [DecidableEq κ] {s : List α} (o : Ord lt) (h : Sorted key lt s) : ∀ d : List α, (∀ a, a ∈ d → ∀ b, b ∈ s → lt (key a) (key b)) → s.foldl (fun l a => tset (fun b => decide (key a = key b)) a l) d = d ++ s := by
  induction s with
  | nil => intro d _; simp
  | cons a s ih =>
    intro d hd
    unfold Sorted at h
    rw [List.pairwise_cons] at h
    rw [List.foldl_cons, tset_snoc (fun b hb e => o.irr (key b) (by have := hd b hb a List.mem_cons_self; rw [e] at this; exact this)), ih h.2]
    · simp
    · intro c hc b hb
      rcases List.mem_append.1 hc with hc | hc
      · exact hd c hc b (List.mem_cons_of_mem _ hb)
      · rw [List.mem_singleton.1 hc]; exact h.1 b hb
end
/-! ### Texts and numbers -/
def tlt (a b : ByteArray) : Prop := a.toList < b.toList
instance : ∀ x y, Decidable (tlt x y) := fun x y => inferInstanceAs (Decidable (x.toList < y.toList))
theorem toList_inj {a b : ByteArray} (h : a.toList = b.toList) : a = b := by
  have := bytes_eq a b
  rw [h] at this
  simpa using this.symm
theorem ordT : Ord tlt where
  irr := fun x => List.lt_irrefl _
  tr := fun x y z h1 h2 => List.lt_trans h1 h2
  tri := fun x y => by
    by_cases h1 : x.toList < y.toList
    · exact .inl h1
    · by_cases h2 : y.toList < x.toList
      · exact .inr (.inr h2)
      · exact .inr (.inl (toList_inj (List.le_antisymm (List.not_lt.1 h2) (List.not_lt.1 h1))))
theorem ordI : Ord (fun x y : Int => x < y) where
  irr := fun x => Int.lt_irrefl x
  tr := fun x y z h1 h2 => Int.lt_trans h1 h2
  tri := fun x y => by omega
theorem less_eq (a b : ByteArray) : Op.bytesLess a.toList b.toList = decide (tlt a b) := Go.Proofs.bytesLess_eq _ _
end Go.Proofs.YthnpbfljoghbmaaA
