/- From a contract to a law's row: what came in, told as trees; what the call answers, told to the row. No law in sight. -/
import Derived.Test.YthnpbfljoghbmaaAm14
import Derived.Deep.Slices
import Derived.DataReads
import Derived.WalkKit
import Derived.ProofKit
import Derived.RowKit
import Derived.ChangeShapes
import Derived.WideShapes
import Derived.OpenShut
import Derived.ShutString
import Derived.ChangeOld
import Derived.Below
import Derived.SizedLaws
import Derived.JoinedOf
namespace Go.Proofs.YthnpbfljoghbmaaA
open Go.Proofs Go.ChangeShapes Go.WideShapes Go.RowKit
set_option autoImplicit false
set_option linter.unusedVariables false
/-- The first that is told. -/
def orO {α : Type} (x y : Option α) : Option α :=
  match x with
  | some a => some a
  | none => y
@[go_sem] theorem orO_some {α : Type} {a : α} {y : Option α} : orO (some a) y = some a := rfl
@[go_sem] theorem orO_none {α : Type} {y : Option α} : orO (none : Option α) y = y := rfl
theorem orO_elim {α : Type} {x y : Option α} {a : α} (h : orO x y = some a) : x = some a ∨ y = some a := by
  cases x with
  | none => exact .inr h
  | some b => exact .inl h
abbrev CB := Option (TV × List (Nat × AObj) × Nat)
/-- Nothing is the call's own yet. -/
def noE : Env := ⟨fun _ => none, fun _ _ => none⟩
/-- Whatever cells read as data of type t are told by trees of which W holds. -/
def OpT (P : Program) (W : List Tree → Prop) (t : TypeId) : Prop :=
  ∀ (H : Type) (enc : TypeId × Value → H) (w : World) (spare : Nat → Bool) (held : Bool) (fuel : Nat) (cs : List Value) (x : DataW H × List MemPlace),
    DataW.trod enc P w 0 spare held fuel t cs = some x → ∃ xs : List Tree, All2 (RO w (fun b o => noE.own b o = none)) cs xs ∧ W xs
/-- The same of a struct's fields from one offset on. -/
def OpTL (P : Program) (W : List Tree → Prop) (fs : List Field) (off tot : Nat) : Prop :=
  ∀ (H : Type) (enc : TypeId × Value → H) (w : World) (spare : Nat → Bool) (held : Bool) (fuel : Nat) (cs : List Value), cs.length = tot →
    (∀ f, f ∈ fs → ∃ y, DataW.trod enc P w 0 spare held fuel f.type ((cs.drop f.offset).take (P.cellsOf f.type)) = some y) → ∃ xs : List Tree, All2 (RO w (fun b o => noE.own b o = none)) (cs.drop off) xs ∧ W xs
section
variable {P : Program} {t e : TypeId} {W W' : List Tree → Prop}
theorem opT_int {k : IntKind} (ht : P.underlying t = some (.int k)) : OpT P (fun xs => ∃ n, xs = [.v (.int k n)] ∧ (Lit.int k n).wf = true) t := by
  intro H enc w spare held fuel cs x h
  obtain ⟨n, rfl, rfl, hw⟩ := DataW.trod_int ht h
  exact ⟨[.v (.int k n)], ⟨.v _ rfl, trivial⟩, n, rfl, hw⟩
theorem opT_bool (ht : P.underlying t = some .bool) : OpT P (fun xs => ∃ b, xs = [.v (.bool b)]) t := by
  intro H enc w spare held fuel cs x h
  obtain ⟨b, rfl, rfl⟩ := DataW.trod_bool ht h
  exact ⟨[.v (.bool b)], ⟨.v _ rfl, trivial⟩, b, rfl⟩
theorem opT_string (ht : P.underlying t = some .string) : OpT P (fun xs => ∃ s, xs = [.v (.string s)] ∧ s.size ≤ maxLen) t := by
  intro H enc w spare held fuel cs x h
  obtain ⟨s, rfl, rfl, hs⟩ := DataW.trod_string ht h
  exact ⟨[.v (.string s)], ⟨.v _ rfl, trivial⟩, s, rfl, hs⟩
theorem listOf {α : Type} {p : Nat → α → Prop} : ∀ {n : Nat}, (∀ i, i < n → ∃ x, p i x) → ∃ l : List α, l.length = n ∧ ∀ i x, l[i]? = some x → p i x := by
  intro n
  induction n with
  | zero => exact fun _ => ⟨[], rfl, fun i x h => by simp at h⟩
  | succ n ih =>
    intro h
    obtain ⟨l, hl, hp⟩ := ih (fun i hi => h i (Nat.lt_succ_of_lt hi))
    obtain ⟨y, hy⟩ := h n (Nat.lt_succ_self n)
    refine ⟨l ++ [y], by simp [hl], fun i x hx => ?_⟩
    by_cases hi : i < l.length
    · rw [List.getElem?_append_left hi] at hx; exact hp i x hx
    · rw [List.getElem?_append_right (by omega)] at hx
      have e0 : i - l.length = 0 := by
        by_cases h0 : i - l.length = 0
        · exact h0
        · rw [List.getElem?_eq_none (by simp; omega)] at hx; simp at hx
      rw [e0] at hx
      have ei : i = n := by omega
      subst ei
      simp at hx
      subst hx
      exact hy
theorem cellsAt {w : World} {a : Addr} {n : Nat} {cs : List Value} (h : w.cells? 0 a n = some cs) : cs.length = n ∧ ∀ i u, cs[i]? = some u → w.cell? (a.add i) = some u := by
  obtain ⟨_, hl, hc⟩ := World.cells?_some h
  refine ⟨hl, fun i u hu => ?_⟩
  have hi : i < n := by rw [← hl]; exact (List.getElem?_eq_some_iff.1 hu).1
  rw [hc i hi, hu]
theorem spot_none {w : World} {a : Addr} {u : Value} (h : w.cell? a = some u) : a.spot = none := by
  unfold World.cell? at h
  split at h
  · split at h
    · cases h
    · rename_i hs; simpa using hs
  · cases h
theorem addPlain {g o k : Nat} : (⟨g, o, none⟩ : Addr).add k = ⟨g, o + k, none⟩ := by
  unfold Addr.add
  split
  · rename_i h; subst h; rfl
  · rfl
theorem opT_slice {sz : Nat} (ht : P.underlying t = some (.slice e)) (hc : P.cellsOf e = sz) (hpos : 0 < sz) (ho : OpT P W e) : OpT P (fun xs => ∃ l : List (List Tree), xs = [.sl sz l] ∧ l.length ≤ maxLen ∧ ∀ x, x ∈ l → x.length = sz ∧ W x) t := by
  intro H enc w spare held fuel cs x h
  rcases Go.Deep.open_slice ht h with ⟨rfl, rfl⟩ | ⟨a, len, cap, m, n, D, Pl, rfl, _, hl, hm, hmm, _, hel⟩
  · exact ⟨[.sl sz []], ⟨.sl none 0 sz [] 0 0 (fun _ _ => .bool false) (Nat.le_refl _) (Nat.zero_le _) (fun x hx => by cases hx) (fun h => (h rfl).elim) (fun i j hi => absurd hi (Nat.not_lt_zero _)) (fun i x hx => by simp at hx), trivial⟩, [], rfl, Nat.zero_le _, fun y hy => by cases hy⟩
  · have hle : len ≤ m := by rw [hmm]; split <;> omega
    obtain ⟨l, hll, hlp⟩ := listOf (n := len) (p := fun i (y : List Tree) => (∃ c, w.cells? 0 (a.add (i * sz)) sz = some c ∧ All2 (RO w (fun b o => noE.own b o = none)) c y) ∧ W y) (fun i hi => by
      obtain ⟨c, h1, h2⟩ := hel i (by omega)
      obtain ⟨y, hk, hw⟩ := ho _ _ _ _ _ _ _ _ h2
      rw [hc] at h1
      exact ⟨y, ⟨c, h1, hk⟩, hw⟩)
    subst hll
    have hlen : ∀ (i : Nat) (x : List Tree), l[i]? = some x → x.length = sz := fun i x hx => by
      obtain ⟨⟨c, h1, h2⟩, _⟩ := hlp i x hx
      rw [← h2.length, (cellsAt h1).1]
    obtain ⟨g, off, spot⟩ := a
    have hsp : l ≠ [] → spot = none := by
      intro hne
      obtain ⟨y, ys, rfl⟩ := List.exists_cons_of_ne_nil hne
      obtain ⟨⟨c, h1, h2⟩, _⟩ := hlp 0 y rfl
      obtain ⟨h3, h4⟩ := cellsAt h1
      have h5 := spot_none (h4 0 _ (List.getElem?_eq_getElem (by omega)))
      rw [Nat.zero_mul] at h5
      exact h5
    refine ⟨[.sl sz l], ⟨.sl (some ⟨g, off, spot⟩) cap sz l g off (fun i j => (w.cell? ⟨g, off + i * sz + j, none⟩).getD (.bool false)) hl (Nat.le_trans hl hm) (fun x hx => ?_) (fun hne => by rw [hsp hne]) (fun i j hi hj => ?_) (fun i x hx j t htt => ?_), trivial⟩, l, rfl, Nat.le_trans hl hm, fun x hx => ?_⟩
    · obtain ⟨i, hi, rfl⟩ := List.getElem_of_mem hx
      exact hlen i _ (List.getElem?_eq_getElem hi)
    · obtain rfl := hsp (by intro h; subst h; exact absurd hi (Nat.not_lt_zero _))
      obtain ⟨⟨c, h1, h2⟩, _⟩ := hlp i _ (List.getElem?_eq_getElem hi)
      obtain ⟨h3, h4⟩ := cellsAt h1
      have h7 := hlen i _ (List.getElem?_eq_getElem hi)
      have h5 := h4 j _ (List.getElem?_eq_getElem (by omega))
      rw [addPlain, addPlain] at h5
      exact ⟨rfl, by rw [h5]; rfl⟩
    · obtain rfl := hsp (by intro h; subst h; simp at hx)
      obtain ⟨⟨c, h1, h2⟩, _⟩ := hlp i x hx
      obtain ⟨h3, h4⟩ := cellsAt h1
      obtain ⟨u, h7, h8⟩ := h2.get htt
      have h5 := h4 j u h7
      rw [addPlain, addPlain] at h5
      simp only [h5]
      exact h8
    · obtain ⟨i, hi, rfl⟩ := List.getElem_of_mem hx
      exact ⟨hlen i _ (List.getElem?_eq_getElem hi), (hlp i _ (List.getElem?_eq_getElem hi)).2⟩
theorem opT_nil {off : Nat} : OpTL P (fun xs => xs = []) [] off off := by
  intro H enc w spare held fuel cs hlen h
  refine ⟨[], ?_, rfl⟩
  rw [List.drop_eq_nil_of_le (by omega)]
  trivial
theorem opT_cons {f : Field} {fs : List Field} {off s tot : Nat} (hf : f.offset = off) (hc : P.cellsOf f.type = s) (ho : OpT P W f.type) (hs : OpTL P W' fs (off + s) tot) :
    OpTL P (fun xs => ∃ ys zs, xs = ys ++ zs ∧ W ys ∧ W' zs) (f :: fs) off tot := by
  intro H enc w spare held fuel cs hlen h
  obtain ⟨y, hy⟩ := h f List.mem_cons_self
  obtain ⟨a, hk, hw⟩ := ho _ _ _ _ _ _ _ _ hy
  obtain ⟨b, hk', hw'⟩ := hs H enc w spare held fuel cs hlen (fun g hg => h g (List.mem_cons_of_mem _ hg))
  refine ⟨a ++ b, ?_, a, b, rfl, hw, hw'⟩
  rw [hf, hc] at hk
  rw [← List.drop_drop] at hk'
  have := All2.append hk hk'
  rwa [List.take_append_drop] at this
theorem opT_struct {fs : Array Field} {tot : Nat} (ht : P.underlying t = some (.struct fs)) (hc : P.cellsOf t = tot) (hs : OpTL P W fs.toList 0 tot) : OpT P W t := by
  intro H enc w spare held fuel cs x h
  obtain ⟨xs, n, _, _, hl, hx, hf⟩ := DataW.trod_struct ht h
  obtain ⟨a, hk, hw⟩ := hs H enc w spare held n cs (by omega) (fun f hm => by
    obtain ⟨i, hi, rfl⟩ := List.getElem_of_mem hm
    have hi' : i < fs.size := by simpa using hi
    have h1 := hf i fs[i] (Array.getElem?_eq_getElem hi')
    rw [List.getElem?_eq_getElem (by omega)] at h1
    exact ⟨_, h1⟩)
  exact ⟨a, by simpa using hk, hw⟩
theorem opT_weak (ho : OpT P W t) (h : ∀ xs, W xs → W' xs) : OpT P W' t := by
  intro H enc w spare held fuel cs x hx
  obtain ⟨a, hk, hw⟩ := ho _ _ _ _ _ _ _ _ hx
  exact ⟨a, hk, h a hw⟩
end
section
variable {P : Program} {t e : TypeId}
theorem rowsTyped {X : Type} {tr : X → List Tree} {sz : Nat} : ∀ {l : List (List Tree)}, (∀ x, x ∈ l → x.length = sz ∧ ∃ c : X, x = tr c) → ∃ cs : List X, l = cs.map tr
  | [], _ => ⟨[], rfl⟩
  | x :: l, h => by
    obtain ⟨c, rfl⟩ := (h x List.mem_cons_self).2
    obtain ⟨cs, rfl⟩ := rowsTyped (tr := tr) (sz := sz) (l := l) fun y hy => h y (List.mem_cons_of_mem _ hy)
    exact ⟨c :: cs, rfl⟩
theorem opT_rows {X : Type} {tr : X → List Tree} {sz : Nat} (ht : P.underlying t = some (.slice e)) (hc : P.cellsOf e = sz) (hpos : 0 < sz) (ho : OpT P (fun xs => ∃ c : X, xs = tr c) e) : OpT P (fun xs => ∃ cs : List X, xs = [.sl sz (cs.map tr)] ∧ cs.length ≤ maxLen) t := by
  refine opT_weak (opT_slice ht hc hpos ho) ?_
  rintro xs ⟨l, rfl, h1, h2⟩
  obtain ⟨cs, rfl⟩ := rowsTyped h2
  exact ⟨cs, rfl, by simpa using h1⟩
end
/-- A struct's cells. -/
theorem rt_agg {w : World} {cs : Array Value} {xs : List Tree} (h : All2 (RO w (fun b o => noE.own b o = none)) cs.toList xs) : RT noE w (.agg cs) (.agg (xs.map .t)) := by
  refine ⟨cs.toList, by simp, ?_⟩
  generalize cs.toList = l at h
  induction l generalizing xs with
  | nil => cases xs with
    | nil => trivial
    | cons x xs => exact h.elim
  | cons c l ih => cases xs with
    | nil => exact h.elim
    | cons x xs => exact ⟨h.1, ih h.2⟩
theorem rt_cell {w : World} {v : Value} {x : Tree} (h : All2 (RO w (fun b o => noE.own b o = none)) [v] [x]) : RT noE w v (.c (.t x)) := h.1
theorem rt_val {w : World} {v : Value} (h : v.oneCell' = true) : RT noE w v (.c (.t (.v v))) := RO.v v h
/-- The call answers true, and what stood is as it stood. -/
theorem tc_calls {P : Program} {f : FuncId} {args : List TV} (h : TC P f args [] 1 (.c (.t (.v (.bool true)))) [] 1) {w : World} {vs : List Value} (hvs : All2 (RT noE w) vs args) (hpre : Pre w noE) :
    Calls P f vs.toArray w fun e w' => e = .returned (.bool true) ∧ Below w.heap.size w w' := by
  refine (h.2 noE w vs hvs (fun id x hx => by cases hx) (fun _ _ => rfl) rfl (fun _ _ _ => rfl) (fun b o id hx => by cases hx) hpre).mono ?_
  rintro e w' ⟨v, E', rfl, hv, hfc, -⟩
  refine ⟨?_, ⟨hfc.os, hfc.tape, hfc.output, hfc.size, fun k hk => (hfc.blk k hk).1 fun _ => .inl rfl⟩⟩
  have h1 : RO w' _ v (.v (.bool true)) := hv
  cases h1
  rfl
def kindsB (P : Program) (fn : Func) (c : OpenClaim) : Bool := (c.kinds == (if c.domain.isEmpty then [] else fn.params.toList.map fun t => match P.underlying t with | some (.int k) => some k | _ => none))
theorem andOk {a b : Bool} (h : a = true) (k : b = true) : (a && b) = true := by rw [h, k]; rfl
/-- What a row asks of the program, one fact at a time (all at once is more than the kernel's memory). -/
theorem closed_of {P : Program} {f : FuncId} {fn : Func} {s : ChangeSpec} {c : OpenClaim} (h0 : (c.wf (OpenSpec.ofChange s)) = true) (h1 : (laidOutB P) = true) (h2 : (mapsRowed P) = true) (h3 : (fn.params.all (P.readableRec ·)) = true) (h4 : (namedTie P c.named s.vars) = true) (h5 : ((c.stops == [])) = true) (h6 : ((P.stops == [])) = true) (h7 : ((c.knobs == [])) = true) (h8 : ((P.stopKnobs == [])) = true) (h9 : ((c.inPlace == P.inPlace f)) = true) (h10 : ((c.unfollowed == P.unfollowed f)) = true) (h11 : ((c.recurses == P.recurses f)) = true) (h12 : ((c.named == P.varsNamed f)) = true) (h13 : ((c.maps == (fn.params.toList ++ s.plain.varTypes P).any (P.mapsRec ·))) = true) (h14 : ((c.ifaces == (fn.params.toList ++ s.plain.varTypes P).any (P.ifacesRec ·))) = true) (h15 : ((c.mapsOut == P.mapsAmong fn.resultTypes.toList)) = true) (h16 : ((c.loops == (fn.params.toList ++ s.plain.varTypes P).any (P.loopsFrom ·))) = true) (h17 : ((c.wideKeys == (fn.params.toList ++ s.plain.varTypes P ++ fn.resultTypes.toList).any (P.wideKeysFrom ·))) = true) (h18 : (s.vars.all (P.varReadable ·)) = true) (h19 : (fn.resultTypes.all (fun t => P.readableRec t && decide (t < P.types.size))) = true) (h20 : ((c.ifacesOut == fn.resultTypes.toList.any (P.ifacesRec ·))) = true) (h21 : ((c.loopsOut == fn.resultTypes.toList.any (P.loopsFrom ·))) = true) (h22 : ((c.plainKeys == P.plainKeys)) = true) (h23 : (c.shortTexts.isNone) = true) (h24 : (P.stopsHeard) = true) (h25 : (P.mayEnter) = true) (h26 : ((c.lifted == P.liftsFinal)) = true) (h27 : ((P.make == some c.make)) = true) (h28 : (kindsB P fn c) = true) (h29 : ((c.pinned == c.pinnedBy)) = true) (h30 : ((c.veiled == (fn.params.toList ++ s.plain.varTypes P ++ fn.resultTypes.toList).any (P.veiledRec ·))) = true) (h31 : (c.veiledFits P fn.params.toList (fn.params.toList ++ s.plain.varTypes P ++ fn.resultTypes.toList)) = true) : joinedFacts P f fn s c = true := by
  unfold joinedFacts
  exact (andOk (andOk (andOk (andOk (andOk (andOk (andOk (andOk (andOk (andOk (andOk (andOk (andOk (andOk (andOk (andOk (andOk (andOk (andOk (andOk (andOk (andOk (andOk (andOk (andOk (andOk (andOk (andOk (andOk (andOk (andOk h0 h1) h2) h3) h4) h5) h6) h7) h8) h9) h10) h11) h12) h13) h14) h15) h16) h17) h18) h19) h20) h21) h22) h23) h24) h25) h26) h27) h28) h29) h30) h31)
end Go.Proofs.YthnpbfljoghbmaaA
