/- Arguments of any plain kind (whole numbers, bools, strings, slices, structs, nested), opened: cells that read as data of a type are the cells of a value of its kind. No program and no law in sight. -/
import Derived.Deep.Slices
import Derived.DataReads
import Derived.WalkKit
import Derived.ProofKit
import Derived.Test.YtnbcpiaajckoaaaWWords
namespace Go.Proofs.Ytnbcpiaajckoaaa.Op
open Go.ChangeShapes Go.WideShapes Go.RowKit Go.Proofs.YtnbcpiaajckoaaaW.PrintWords

/-- Whatever cells read as data of type t are those of a value of kind d; W: what is known of it. -/
def Opens (P : Program) {α : Type} (d : Kd α) (W : α → Prop) (t : TypeId) : Prop :=
  ∀ (H : Type) (enc : TypeId × Value → H) (w : World) (spare : Nat → Bool) (held : Bool) (fuel : Nat) (cs : List Value) (x : DataW H × List MemPlace),
    DataW.trod enc P w 0 spare held fuel t cs = some x → ∃ a : α, d.K w a cs ∧ W a

/-- The same of a struct's fields from one offset on. -/
def OpensL (P : Program) {α : Type} (d : Kd α) (W : α → Prop) (fs : List Field) (off : Nat) : Prop :=
  ∀ (H : Type) (enc : TypeId × Value → H) (w : World) (spare : Nat → Bool) (held : Bool) (fuel : Nat) (cs : List Value), off + d.sz = cs.length →
    (∀ f, f ∈ fs → ∃ y, DataW.trod enc P w 0 spare held fuel f.type ((cs.drop f.offset).take (P.cellsOf f.type)) = some y) → ∃ a : α, d.K w (a) (cs.drop off) ∧ W a

section
variable {P : Program} {t e : TypeId}

theorem opens_int {k : IntKind} (ht : P.underlying t = some (.int k)) : Opens P (Kd.int k) (fun n => (Lit.int k n).wf = true) t := by
  intro H enc w spare held fuel cs x h
  obtain ⟨n, rfl, rfl, hw⟩ := DataW.trod_int ht h
  exact ⟨n, rfl, hw⟩

theorem opens_bool (ht : P.underlying t = some .bool) : Opens P Kd.bool (fun _ => True) t := by
  intro H enc w spare held fuel cs x h
  obtain ⟨b, rfl, rfl⟩ := DataW.trod_bool ht h
  exact ⟨b, rfl, trivial⟩

theorem opens_string (ht : P.underlying t = some .string) : Opens P Kd.string (fun s => s.size ≤ maxLen) t := by
  intro H enc w spare held fuel cs x h
  obtain ⟨s, rfl, rfl, hs⟩ := DataW.trod_string ht h
  exact ⟨s, rfl, hs⟩

theorem list_of {α : Type} {p : Nat → α → Prop} : ∀ {n : Nat}, (∀ i, i < n → ∃ x, p i x) → ∃ l : List α, l.length = n ∧ ∀ i x, l[i]? = some x → p i x := by
  intro n
  induction n with
  | zero => exact fun _ => ⟨[], rfl, fun i x h => by simp at h⟩
  | succ n ih =>
    intro h
    obtain ⟨l, hl, hp⟩ := ih (fun i hi => h i (Nat.lt_succ_of_lt hi))
    obtain ⟨y, hy⟩ := h n (Nat.lt_succ_self n)
    refine ⟨l ++ [y], by simp [hl], fun i x hx => ?_⟩
    by_cases hi : i < l.length
    · rw [List.getElem?_append_left hi] at hx; exact hp i x hx
    · rw [List.getElem?_append_right (by omega)] at hx
      have e0 : i - l.length = 0 := by
        by_cases h0 : i - l.length = 0
        · exact h0
        · rw [List.getElem?_eq_none (by simp; omega)] at hx; simp at hx
      rw [e0] at hx
      have ei : i = n := by omega
      subst ei
      simp at hx
      subst hx
      exact hy

theorem cells_at {w : World} {a : Addr} {n : Nat} {cs : List Value} (h : w.cells? 0 a n = some cs) : cs.length = n ∧ ∀ i u, cs[i]? = some u → w.cell? (a.add i) = some u := by
  obtain ⟨_, hl, hc⟩ := World.cells?_some h
  refine ⟨hl, fun i u hu => ?_⟩
  have hi : i < n := by rw [← hl]; exact (List.getElem?_eq_some_iff.1 hu).1
  rw [hc i hi, hu]

theorem opens_slice {α : Type} {d : Kd α} {W : α → Prop} (ht : P.underlying t = some (.slice e)) (hc : P.cellsOf e = d.sz) (ho : Opens P d W e) :
    Opens P (Kd.slice e d) (fun l => l.length ≤ maxLen ∧ ∀ x, x ∈ l → W x) t := by
  intro H enc w spare held fuel cs x h
  rcases Go.Deep.open_slice ht h with ⟨rfl, rfl⟩ | ⟨a, len, cap, m, n, D, Pl, rfl, _, hl, hm, hmm, _, hel⟩
  · exact ⟨[], ⟨none, 0, rfl, Nat.le_refl _, Kd.C_nil _ _⟩, Nat.zero_le _, fun y hy => by cases hy⟩
  · have hle : len ≤ m := by rw [hmm]; split <;> omega
    obtain ⟨l, hll, hlp⟩ := list_of (n := len) (p := fun i (y : α) => (∃ c, w.cells? 0 (a.add (i * d.sz)) d.sz = some c ∧ d.K w y c) ∧ W y) (fun i hi => by
      obtain ⟨c, h1, h2⟩ := hel i (by omega)
      obtain ⟨y, hk, hw⟩ := ho _ _ _ _ _ _ _ _ h2
      rw [hc] at h1
      exact ⟨y, ⟨c, h1, hk⟩, hw⟩)
    subst hll
    refine ⟨l, ⟨some a, cap, rfl, hl, ?_⟩, Nat.le_trans hl hm, fun y hy => ?_⟩
    · refine ⟨rfl, by unfold maxLen at hm; omega, fun _ => ⟨a, rfl, fun j p hj => ?_⟩⟩
      obtain ⟨⟨c, h1, h2⟩, _⟩ := hlp j p hj
      obtain ⟨h3, h4⟩ := cells_at h1
      exact ⟨c, h3, h2, fun i u hu => by rw [← Go.Deep.add_add]; exact h4 i u hu⟩
    · obtain ⟨i, hi, rfl⟩ := List.getElem_of_mem hy
      exact (hlp i _ (List.getElem?_eq_getElem hi)).2

theorem opens_one {α : Type} {d : Kd α} {W : α → Prop} {f : Field} {off : Nat} (hf : f.offset = off) (hc : P.cellsOf f.type = d.sz) (ho : Opens P d W f.type) : OpensL P d W [f] off := by
  intro H enc w spare held fuel cs hlen h
  obtain ⟨y, hy⟩ := h f (List.mem_singleton.2 rfl)
  obtain ⟨a, hk, hw⟩ := ho _ _ _ _ _ _ _ _ hy
  rw [hf, hc, List.take_of_length_le (by rw [List.length_drop]; omega)] at hk
  exact ⟨a, hk, hw⟩

theorem opens_cons {α β : Type} {d : Kd α} {W : α → Prop} {d' : Kd β} {W' : β → Prop} {f : Field} {fs : List Field} {off : Nat} (hf : f.offset = off) (hc : P.cellsOf f.type = d.sz) (ho : Opens P d W f.type)
    (hs : OpensL P d' W' fs (off + d.sz)) : OpensL P (Kd.pair d d') (fun p => W p.1 ∧ W' p.2) (f :: fs) off := by
  intro H enc w spare held fuel cs hlen h
  obtain ⟨y, hy⟩ := h f List.mem_cons_self
  obtain ⟨a, hk, hw⟩ := ho _ _ _ _ _ _ _ _ hy
  have hlen' : off + (d.sz + d'.sz) = cs.length := hlen
  obtain ⟨b, hk', hw'⟩ := hs H enc w spare held fuel cs (by omega) (fun g hg => h g (List.mem_cons_of_mem _ hg))
  refine ⟨(a, b), ⟨(cs.drop off).take d.sz, (cs.drop off).drop d.sz, (List.take_append_drop _ _).symm, ?_, ?_⟩, hw, hw'⟩
  · rw [hf, hc] at hk; exact hk
  · rw [List.drop_drop]; exact hk'

theorem opens_struct {α : Type} {d : Kd α} {W : α → Prop} {fs : Array Field} (ht : P.underlying t = some (.struct fs)) (hc : P.cellsOf t = d.sz) (hs : OpensL P d W fs.toList 0) : Opens P d W t := by
  intro H enc w spare held fuel cs x h
  obtain ⟨xs, n, _, _, hl, hx, hf⟩ := DataW.trod_struct ht h
  obtain ⟨a, hk, hw⟩ := hs H enc w spare held n cs (by omega) (fun f hm => by
    obtain ⟨i, hi, rfl⟩ := List.getElem_of_mem hm
    have hi' : i < fs.size := by simpa using hi
    have h1 := hf i fs[i] (Array.getElem?_eq_getElem hi')
    rw [List.getElem?_eq_getElem (by omega)] at h1
    exact ⟨_, h1⟩)
  exact ⟨a, by simpa using hk, hw⟩

theorem opens_iso {α β : Type} {d : Kd α} {W : α → Prop} {f : β → α} (g : α → β) (hg : ∀ b, f (g b) = b) (ho : Opens P d W t) : Opens P (Kd.iso d f) (fun x => W (f x)) t := by
  intro H enc w spare held fuel cs x h
  obtain ⟨a, hk, hw⟩ := ho _ _ _ _ _ _ _ _ h
  exact ⟨g a, (show d.K w (f (g a)) cs by rw [hg]; exact hk), (show W (f (g a)) by rw [hg]; exact hw)⟩

theorem opens_weaken {α : Type} {d : Kd α} {W W' : α → Prop} (h : ∀ x, W x → W' x) (ho : Opens P d W t) : Opens P d W' t := by
  intro H enc w spare held fuel cs x hx
  obtain ⟨a, hk, hw⟩ := ho _ _ _ _ _ _ _ _ hx
  exact ⟨a, hk, h a hw⟩
end

end Go.Proofs.Ytnbcpiaajckoaaa.Op
