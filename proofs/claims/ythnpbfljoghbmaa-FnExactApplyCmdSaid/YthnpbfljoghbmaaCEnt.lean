/- Rows of entries, read again. -/
import Derived.Test.YthnpbfljoghbmaaCLog
namespace Go.Proofs.YthnpbfljoghbmaaA
open Go.Proofs
set_option autoImplicit false
set_option linter.unusedVariables false
set_option linter.unusedSimpArgs false
set_option maxRecDepth 4000
def unEntT : List Tree → Option Ent
  | [.v (.int .i64 k), .v (.int .i64 a), .v (.int .i64 b), .v (.int .i64 o), .v (.string x), .v (.string y), .v (.string z)] => some ⟨k, ⟨a, b, o, x, y, z⟩⟩
  | _ => none
theorem unEntT_ok {xs : List Tree} {c : Ent} (h : unEntT xs = some c) : xs = c.tr := by
  unfold unEntT at h
  split at h
  · cases h; rfl
  · cases h
def unEnts : List (List Tree) → Option (List Ent)
  | [] => some []
  | x :: l => match unEntT x, unEnts l with
    | some e, some es => some (e :: es)
    | _, _ => none
@[go_sem] theorem unEnts_map (l : List Ent) : unEnts (l.map Ent.tr) = some l := by
  induction l with
  | nil => rfl
  | cons e l ih => simp only [List.map_cons, unEnts, ih]; rfl
theorem unEnts_ok : ∀ {xs : List (List Tree)} {l : List Ent}, unEnts xs = some l → xs = l.map Ent.tr
  | [], l, h => by cases h; rfl
  | x :: xs, l, h => by
    unfold unEnts at h
    split at h
    · rename_i e es he hes
      cases h
      rw [unEntT_ok he, unEnts_ok hes]
      rfl
    · cases h
def unInts : List (List Tree) → Option (List Int)
  | [] => some []
  | x :: l => match x, unInts l with
    | [.v (.int .i64 n)], some es => some (n :: es)
    | _, _ => none
@[go_sem] theorem unInts_map (l : List Int) : unInts (l.map iTr) = some l := by
  induction l with
  | nil => rfl
  | cons e l ih => simp only [List.map_cons, unInts, ih]; rfl
theorem unInts_ok : ∀ {xs : List (List Tree)} {l : List Int}, unInts xs = some l → xs = l.map iTr
  | [], l, h => by cases h; rfl
  | x :: xs, l, h => by
    unfold unInts at h
    split at h
    · rename_i n es he
      cases h
      rw [unInts_ok he]
      rfl
    · cases h
@[go_sem] theorem take_map_len {α β : Type} (f : α → β) (l : List α) : (l.map f).take l.length = l.map f := List.take_of_length_le (by simp)
@[go_sem] theorem le_map_len {α β : Type} (f : α → β) (l : List α) : (l.length ≤ (l.map f).length) = True := by simp
@[go_sem] theorem take_mk {β : Type} (f : Ent → β) (n : Nat) (k : Int) : ((mkEs n k).map f).take n = (mkEs n k).map f := List.take_of_length_le (by simp [mkEs_len])
@[go_sem] theorem le_mk {β : Type} (f : Ent → β) (n : Nat) (k : Int) : (n ≤ ((mkEs n k).map f).length) = True := by simp [mkEs_len]
@[go_sem] theorem mk_self (n : Nat) (k : Int) : (mkEs n k = mkEs (mkEs n k).length k) = True := by simp [mkEs_len]
end Go.Proofs.YthnpbfljoghbmaaA
