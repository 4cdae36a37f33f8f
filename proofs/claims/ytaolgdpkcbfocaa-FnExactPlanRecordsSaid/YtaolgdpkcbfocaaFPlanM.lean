/- Records that lead from one state to another: plain facts. -/
import Derived.Test.YtaolgdpkcbfocaaFPlan1
namespace Go.Proofs.YtaolgdpkcbfocaaA
open Go.Proofs
set_option autoImplicit false
set_option linter.unusedVariables false
/-- How many entries two logs share at their heads. -/
def comF : List Ent → List Ent → Nat
  | a :: l, b :: m => if a = b then comF l m + 1 else 0
  | _, _ => 0
def noEnt : Ent := ⟨0, ⟨0, 0, 0, ⟨#[]⟩, ⟨#[]⟩, ⟨#[]⟩⟩⟩
def addF : List Ent → Nat → List Rec
  | [], _ => []
  | e :: l, k => ⟨2, 0, 0, ((k + 1 : Nat) : Int), e⟩ :: addF l (k + 1)
def hardL (s u : Stb) : List Rec := if s.term = u.term ∧ s.vote = u.vote then [] else [⟨1, u.term, u.vote, 0, noEnt⟩]
def cutL (s : Stb) (k : Nat) : List Rec := if k < s.log.length then [⟨3, 0, 0, ((k : Nat) : Int), noEnt⟩] else []
def headL (s u : Stb) : List Rec := hardL s u ++ cutL s (comF s.log u.log)
def recL (s u : Stb) : List Rec := headL s u ++ addF (u.log.drop (comF s.log u.log)) (comF s.log u.log)
theorem comF_drop {l m : List Ent} {k : Nat} {a b : Ent} (h : l[k]? = some a) (h2 : m[k]? = some b) : comF (l.drop k) (m.drop k) = if a = b then comF (l.drop (k + 1)) (m.drop (k + 1)) + 1 else 0 := by
  have hk := (List.getElem?_eq_some_iff.1 h).1
  have hk2 := (List.getElem?_eq_some_iff.1 h2).1
  rw [List.drop_eq_getElem_cons hk, List.drop_eq_getElem_cons hk2]
  have e1 : l[k] = a := by rw [List.getElem?_eq_getElem hk] at h; exact Option.some.inj h
  have e2 : m[k] = b := by rw [List.getElem?_eq_getElem hk2] at h2; exact Option.some.inj h2
  simp only [comF, e1, e2]
theorem comF_end {l m : List Ent} {k : Nat} (h : l.length ≤ k ∨ m.length ≤ k) : comF (l.drop k) (m.drop k) = 0 := by
  rcases h with h | h
  · rw [List.drop_eq_nil_of_le h]; cases m.drop k <;> rfl
  · rw [List.drop_eq_nil_of_le h]; cases l.drop k <;> rfl
theorem comF_le : ∀ (l m : List Ent), comF l m ≤ l.length ∧ comF l m ≤ m.length
  | [], m => by cases m <;> simp [comF]
  | a :: l, [] => by simp [comF]
  | a :: l, b :: m => by
    have := comF_le l m
    simp only [comF, List.length_cons]
    split <;> omega
theorem addF_len : ∀ (l : List Ent) (k : Nat), (addF l k).length = l.length
  | [], _ => rfl
  | e :: l, k => by rw [addF, List.length_cons, addF_len l, List.length_cons]
theorem addF_snoc : ∀ (l : List Ent) (k : Nat) (e : Ent), addF (l ++ [e]) k = addF l k ++ [⟨2, 0, 0, ((k + l.length + 1 : Nat) : Int), e⟩]
  | [], k, e => by simp [addF]
  | a :: l, k, e => by
    rw [List.cons_append, addF, addF_snoc l, addF, List.cons_append, List.length_cons]
    congr 4
    omega
/-- What is added so far: from place c on up to place i. -/
def addT (l : List Ent) (c i : Nat) : List Rec := addF ((l.take i).drop c) c
theorem addT_zero (l : List Ent) (c : Nat) : addT l c c = [] := by
  unfold addT
  rw [List.drop_eq_nil_of_le (by simp; omega)]
  rfl
theorem addT_all (l : List Ent) (c : Nat) : addT l c l.length = addF (l.drop c) c := by
  unfold addT
  rw [List.take_length]
theorem addT_succ {l : List Ent} {c i : Nat} {e : Ent} (h : l[i]? = some e) (hc : c ≤ i) : addT l c (i + 1) = addT l c i ++ [⟨2, 0, 0, ((i + 1 : Nat) : Int), e⟩] := by
  have hi := (List.getElem?_eq_some_iff.1 h).1
  unfold addT
  rw [List.take_add_one, h, Option.toList_some, List.drop_append_of_le_length (by simp; omega), addF_snoc]
  congr 4
  simp
  omega
theorem addT_len {l : List Ent} {c i : Nat} (hi : i ≤ l.length) : (addT l c i).length = i - c := by
  unfold addT
  rw [addF_len]
  simp
  omega
theorem headL_len (s u : Stb) : (headL s u).length ≤ 2 := by
  unfold headL hardL cutL
  split <;> split <;> simp
theorem recL_len (s u : Stb) : (recL s u).length ≤ 2 + u.log.length := by
  have := headL_len s u
  unfold recL
  rw [List.length_append, addF_len, List.length_drop]
  omega
/-- The new state may follow the old one. -/
def fitB (s u : Stb) : Bool := decide (u.term > s.term ∨ u.term = s.term ∧ (s.vote = 0 ∨ s.vote = u.vote))
/-- Whether there is an answer, and if not, why. -/
def planC (s u : Stb) : Int := if stF s = false then 1 else if stF u = false then 2 else if fitB s u = false then 3 else 0
end Go.Proofs.YtaolgdpkcbfocaaA
