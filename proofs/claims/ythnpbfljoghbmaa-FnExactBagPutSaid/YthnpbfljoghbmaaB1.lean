/- A calculus over plain states: memory is told as a short list of blocks that the call owns, slices that came in are told as lists; each rule is proved against the walk's own 'wp'. No program and no law in sight. -/
import Derived.Tactics
import Derived.Laws.AppendOwn
import Derived.LoopN
import Derived.MapKept
import Derived.Deep.MidRow
import Derived.Laws.StructEq
import Derived.Laws.IdiomCopy
import Derived.Laws.Slices
namespace Go.Proofs.YthnpbfljoghbmaaA
set_option autoImplicit false
set_option linter.unusedVariables false

/-! ### Values without addresses -/
/-- What is read and never written: a one-cell value, or a slice told as the list of its elements' cells. -/
inductive Tree where
  | v (x : Value)
  | sl (sz : Nat) (xs : List (List Tree))

/-- One cell: what is read; the keys of a map of the call's own, one after the other (sq); a slice of a row of the call's own; an address into a block of the call's own; into a row of its own; into cells that are only read. -/
inductive CV where
  | t (x : Tree)
  | own (id lo len : Nat)
  | ptr (id off : Nat)
  | ifp (ty id off : Nat)
  | ep (id i j : Nat)
  | rp (xs : List Tree)
  | irp (ty : Nat) (xs : List Tree)
  | gv (g o : Nat)
  | mp (id : Nat)
  | sq (f id : Nat)
  | junk

inductive TV where
  | c (x : CV)
  | agg (xs : List CV)
  | tup (xs : List TV)

/-- A cell of a row whose elements hold rows of the call's own: what is read; any cell; a row that nothing else leads to. -/
inductive NC where
  | t (x : Tree)
  | c (x : CV)
  | row (ty sz : Nat) (rows : List (List Tree))

/-- A block of the call's own: the cells of a variable; a row that may be appended to; a map; a row whose elements hold rows. -/
inductive AObj where
  | cells (xs : List CV)
  | arr (ty sz : Nat) (xs : List (List Tree))
  | mp (d : Option IntKind) (es : List (Value × Value))
  | nest (ty sz : Nat) (xs : List (List NC))

structure St where
  tmps : List (Nat × TV)
  objs : List (Nat × AObj)
  next : Nat

/-- Where a block of the call's own lies. -/
inductive Base where
  | cell (g base : Nat)
  | arr (g sz cap : Nat)
  | map (g : Nat)
  | nil

structure Env where
  at_ : Nat → Option Base
  own : Nat → Nat → Option Nat

def look {α : Type} (t : Nat) : List (Nat × α) → Option α
  | [] => none
  | (s, x) :: l => if t = s then some x else look t l
def upd {α : Type} (t : Nat) (x : α) : List (Nat × α) → List (Nat × α)
  | [] => [(t, x)]
  | (s, y) :: l => if t = s then (s, x) :: l else (s, y) :: upd t x l
def push {α : Type} (t : Nat) (x : α) (l : List (Nat × α)) : List (Nat × α) := (t, x) :: l
def del {α : Type} (t : Nat) : List (Nat × α) → List (Nat × α)
  | [] => []
  | (s, y) :: l => if t = s then del t l else (s, y) :: del t l

theorem look_push {α : Type} (t s : Nat) (x : α) (l : List (Nat × α)) : look s (push t x l) = if s = t then some x else look s l := rfl
theorem look_upd {α : Type} (t s : Nat) (x : α) (l : List (Nat × α)) : look s (upd t x l) = if s = t then some x else look s l := by
  induction l with
  | nil => simp [upd, look]
  | cons p l ih =>
    obtain ⟨k, y⟩ := p
    simp only [upd]
    by_cases h : t = k
    · subst h
      by_cases hs : s = t
      · subst hs; simp [look]
      · simp [look, hs]
    · simp only [h, if_false, look, ih]
      by_cases hs : s = k
      · subst hs; simp [Ne.symm h]
      · simp [hs]
theorem look_del {α : Type} (t s : Nat) (l : List (Nat × α)) : look s (del t l) = if s = t then none else look s l := by
  induction l with
  | nil => simp [del, look]
  | cons p l ih =>
    obtain ⟨k, y⟩ := p
    simp only [del]
    by_cases h : t = k
    · subst h
      by_cases hs : s = t
      · subst hs; simpa using ih
      · simp [look, hs, ih]
    · simp only [h, if_false, look, ih]
      by_cases hs : s = k
      · subst hs; simp [Ne.symm h]
      · simp [hs]

namespace St
def get (st : St) (t : Nat) : TV := (look t st.tmps).getD (.c .junk)
def obj (st : St) (id : Nat) : Option AObj := look id st.objs
def put (st : St) (dst : Option Tmp) (x : TV) : St :=
  match dst with
  | some d => { st with tmps := push d x st.tmps }
  | none => st
def setObj (st : St) (id : Nat) (o : AObj) : St := { st with objs := upd id o st.objs }
def delObj (st : St) (id : Nat) : St := { st with objs := del id st.objs }
/-- A new block. -/
def new (st : St) (o : AObj) : St := { st with objs := upd st.next o st.objs, next := st.next + 1 }
end St

/-! ### What a state says of a frame and a world -/
def All2 {α β : Type} (R : α → β → Prop) : List α → List β → Prop
  | [], [] => True
  | a :: as, b :: bs => R a b ∧ All2 R as bs
  | _, _ => False

theorem All2.length {α β : Type} {R : α → β → Prop} : ∀ {as : List α} {bs : List β}, All2 R as bs → as.length = bs.length
  | [], [], _ => rfl
  | _ :: _, _ :: _, h => by simp [All2.length h.2]
  | [], _ :: _, h => h.elim
  | _ :: _, [], h => h.elim
theorem All2.mono {α β : Type} {R R' : α → β → Prop} (hr : ∀ a b, R a b → R' a b) : ∀ {as : List α} {bs : List β}, All2 R as bs → All2 R' as bs
  | [], [], _ => trivial
  | _ :: _, _ :: _, h => ⟨hr _ _ h.1, All2.mono hr h.2⟩
  | [], _ :: _, h => h.elim
  | _ :: _, [], h => h.elim
theorem All2.get {α β : Type} {R : α → β → Prop} : ∀ {as : List α} {bs : List β}, All2 R as bs → ∀ {i : Nat} {b : β}, bs[i]? = some b → ∃ a, as[i]? = some a ∧ R a b
  | [], [], _, i, b, h => by simp at h
  | a :: _, _ :: _, h, 0, b, hb => by simp at hb; subst hb; exact ⟨a, rfl, h.1⟩
  | _ :: _, _ :: _, h, i + 1, b, hb => by simpa using All2.get h.2 (i := i) (by simpa using hb)
  | [], _ :: _, h, _, _, _ => h.elim
  | _ :: _, [], h, _, _, _ => h.elim
theorem All2.mk {α β : Type} {R : α → β → Prop} : ∀ {as : List α} {bs : List β}, as.length = bs.length → (∀ (i : Nat) (a : α) (b : β), as[i]? = some a → bs[i]? = some b → R a b) → All2 R as bs
  | [], [], _, _ => trivial
  | a :: as, b :: bs, hl, h => ⟨h 0 a b rfl rfl, All2.mk (by simpa using hl) fun i x y hx hy => h (i + 1) x y (by simpa using hx) (by simpa using hy)⟩
  | [], _ :: _, hl, _ => by simp at hl
  | _ :: _, [], hl, _ => by simp at hl
theorem All2.append {α β : Type} {R : α → β → Prop} : ∀ {as : List α} {bs : List β} {as' : List α} {bs' : List β}, All2 R as bs → All2 R as' bs' → All2 R (as ++ as') (bs ++ bs')
  | [], [], _, _, _, h => h
  | _ :: _, _ :: _, _, _, h, h' => ⟨h.1, All2.append h.2 h'⟩
  | [], _ :: _, _, _, h, _ => h.elim
  | _ :: _, [], _, _, h, _ => h.elim
theorem All2.drop {α β : Type} {R : α → β → Prop} : ∀ {as : List α} {bs : List β} (n : Nat), All2 R as bs → All2 R (as.drop n) (bs.drop n)
  | _, _, 0, h => by simpa using h
  | [], [], _ + 1, _ => trivial
  | _ :: _, _ :: _, n + 1, h => by simpa using All2.drop n h.2
  | [], _ :: _, _ + 1, h => h.elim
  | _ :: _, [], _ + 1, h => h.elim
theorem All2.take {α β : Type} {R : α → β → Prop} : ∀ {as : List α} {bs : List β} (n : Nat), All2 R as bs → All2 R (as.take n) (bs.take n)
  | _, _, 0, _ => by simp [All2]
  | [], [], _ + 1, _ => trivial
  | _ :: _, _ :: _, n + 1, h => by simpa using ⟨h.1, All2.take n h.2⟩
  | [], _ :: _, _ + 1, h => h.elim
  | _ :: _, [], _ + 1, h => h.elim

/-- A map's key: a whole number of this kind; else a text. -/
def KeyV : Option IntKind → Value → Prop
  | some k, v => ∃ n, v = .int k n
  | none, v => ∃ s, v = .string s
/-- One cell, or a struct of such. -/
def FlatV (v : Value) : Prop := v.oneCell' = true ∨ ∃ cs : List Value, v = .agg cs.toArray ∧ ∀ u, u ∈ cs → u.oneCell' = true

/-- A value reads as a tree; A: the cells that may be read. -/
inductive RO (w : World) (A : Nat → Nat → Prop) : Value → Tree → Prop
  | v (x : Value) (h : x.oneCell' = true) : RO w A x (.v x)
  | sl (a : Option Addr) (cap sz : Nat) (xs : List (List Tree)) (g off : Nat) (f : Nat → Nat → Value)
      (hcap : xs.length ≤ cap) (hmax : xs.length ≤ maxLen) (hsz : ∀ x, x ∈ xs → x.length = sz) (ha : xs ≠ [] → a = some ⟨g, off, none⟩)
      (hc : ∀ i j, i < xs.length → j < sz → A g (off + i * sz + j) ∧ w.cell? ⟨g, off + i * sz + j, none⟩ = some (f i j))
      (ht : ∀ i x, xs[i]? = some x → ∀ j t, x[j]? = some t → RO w A (f i j) t) : RO w A (.slice a xs.length cap) (.sl sz xs)

theorem RO.one {w : World} {A : Nat → Nat → Prop} {v : Value} {t : Tree} (h : RO w A v t) : v.oneCell' = true := by
  cases h with
  | v x h => exact h
  | sl => rfl

theorem RO.mono {w w' : World} {A A' : Nat → Nat → Prop} (hw : ∀ b o v, A b o → w.cell? ⟨b, o, none⟩ = some v → A' b o ∧ w'.cell? ⟨b, o, none⟩ = some v) {v : Value} {t : Tree} (h : RO w A v t) : RO w' A' v t := by
  induction h with
  | v x h => exact .v x h
  | sl a cap sz xs g off f hcap hmax hsz ha hc ht ih => exact .sl a cap sz xs g off f hcap hmax hsz ha (fun i j hi hj => hw _ _ _ (hc i j hi hj).1 (hc i j hi hj).2) ih

section
variable (E : Env) (w : World)
/-- A cell's value. -/
def RC (v : Value) : CV → Prop
  | .t x => RO w (fun b o => E.own b o = none) v x
  | .own id lo len => (E.at_ id = some .nil ∧ v = .slice none 0 0 ∧ lo = 0 ∧ len = 0) ∨
      ∃ g sz cap o, E.at_ id = some (.arr g sz cap) ∧ v = .slice (some ⟨g, o, none⟩) len (cap - lo) ∧ lo + len ≤ cap ∧ (lo < cap → o = lo * sz)
  | .ptr id off => ∃ g base, E.at_ id = some (.cell g base) ∧ v = .pointer (some ⟨g, base + off, none⟩)
  | .ifp ty id off => ∃ g base, E.at_ id = some (.cell g base) ∧ v = .iface ty (.pointer (some ⟨g, base + off, none⟩))
  | .ep id i j => ∃ g sz cap, E.at_ id = some (.arr g sz cap) ∧ v = .pointer (some ⟨g, i * sz + j, none⟩)
  | .rp xs => ∃ g o, v = .pointer (some ⟨g, o, none⟩) ∧ ∀ j t, xs[j]? = some t → E.own g (o + j) = none ∧ ∃ u, w.cell? ⟨g, o + j, none⟩ = some u ∧ RO w (fun b o => E.own b o = none) u t
  | .irp ty xs => ∃ g o, v = .iface ty (.pointer (some ⟨g, o, none⟩)) ∧ ∀ j t, xs[j]? = some t → E.own g (o + j) = none ∧ ∃ u, w.cell? ⟨g, o + j, none⟩ = some u ∧ RO w (fun b o => E.own b o = none) u t
  | .gv g o => E.own g o = none ∧ w.cell? ⟨g, o, none⟩ = some v ∧ v.oneCell' = true
  | .mp id => ∃ g, E.at_ id = some (.map g) ∧ v = .map (some g)
  | .sq f id => ∃ g gm, v = .func (.func f) #[] #[.pointer (some ⟨g, 0, none⟩)] ∧ E.own g 0 = none ∧ w.cell? ⟨g, 0, none⟩ = some (.map (some gm)) ∧ E.at_ id = some (.map gm)
  | .junk => True
def RT1 (v : Value) : TV → Prop
  | .c x => RC E w v x
  | .agg xs => ∃ vs : List Value, v = .agg vs.toArray ∧ All2 (RC E w) vs xs
  | .tup _ => False
def RT (v : Value) : TV → Prop
  | .tup xs => ∃ vs : List Value, v = .tuple vs.toArray ∧ All2 (RT1 E w) vs xs
  | x => RT1 E w v x
def blkOf : Value → Option Nat
  | .slice (some a) _ _ => some a.block
  | _ => none
def isRow (xs : List (List NC)) (sz p : Nat) : Prop := ∃ i j x ty sz' rows, p = i * sz + j ∧ xs[i]? = some x ∧ x[j]? = some (NC.row ty sz' rows)
/-- A row that only an element of the row id leads to (g: that row's own block). -/
def RRow (id ty sz : Nat) (rows : List (List Tree)) (g : Nat) (v : Value) : Prop := (v = .slice none 0 0 ∧ rows = []) ∨
  ∃ g' cap cur o, v = .slice (some ⟨g', o, none⟩) rows.length cap ∧ (0 < cap → o = 0) ∧ g' ≠ g ∧ w.heap[g']? = some (.cells cur ty (0, 0)) ∧ cur.size = cap * sz ∧ rows.length ≤ cap ∧ cap ≤ maxLen ∧ (∀ o, E.own g' o = some id) ∧
    (∀ x, x ∈ rows → x.length = sz) ∧ ∀ i x, rows[i]? = some x → ∀ j t, x[j]? = some t → ∃ u, cur[i * sz + j]? = some u ∧ RO w (fun b o => E.own b o = none) u t
def RNC (id g : Nat) (v : Value) : NC → Prop
  | .t t => RO w (fun b o => E.own b o = none) v t
  | .c x => v.oneCell' = true ∧ RC E w v x
  | .row ty sz rows => RRow E w id ty sz rows g v
def RNest (id ty sz : Nat) (xs : List (List NC)) : Prop := (E.at_ id = some .nil ∧ xs = []) ∨
  ∃ g cap cur, E.at_ id = some (.arr g sz cap) ∧ w.heap[g]? = some (.cells cur ty (0, 0)) ∧ cur.size = cap * sz ∧ xs.length ≤ cap ∧ cap ≤ maxLen ∧ (∀ o, E.own g o = some id) ∧ (∀ x, x ∈ xs → x.length = sz) ∧
    (∀ i x, xs[i]? = some x → ∀ j c, x[j]? = some c → ∃ v, cur[i * sz + j]? = some v ∧ RNC E w id g v c) ∧
    ∀ p q v v' b, isRow xs sz p → isRow xs sz q → cur[p]? = some v → cur[q]? = some v' → blkOf v = some b → blkOf v' = some b → p = q
def RObj (id : Nat) : AObj → Prop
  | .cells xs => ∃ g base cur ty, E.at_ id = some (.cell g base) ∧ w.heap[g]? = some (.cells cur ty (0, 0)) ∧ base + xs.length ≤ cur.size ∧
      ∀ j x, xs[j]? = some x → E.own g (base + j) = some id ∧ ∃ v, cur[base + j]? = some v ∧ v.oneCell' = true ∧ RC E w v x
  | .arr ty sz xs => (E.at_ id = some .nil ∧ xs = []) ∨
      ∃ g cap cur, E.at_ id = some (.arr g sz cap) ∧ w.heap[g]? = some (.cells cur ty (0, 0)) ∧ cur.size = cap * sz ∧ xs.length ≤ cap ∧ cap ≤ maxLen ∧ (∀ o, E.own g o = some id) ∧
        (∀ x, x ∈ xs → x.length = sz) ∧ ∀ i x, xs[i]? = some x → ∀ j t, x[j]? = some t → ∃ v, cur[i * sz + j]? = some v ∧ RO w (fun b o => E.own b o = none) v t
  | .mp d es => ∃ g arr clock, E.at_ id = some (.map g) ∧ w.heap[g]? = some (.map arr clock) ∧ (arr.toList.map fun e => (e.key, e.val)) = es ∧ (∀ o, E.own g o = some id) ∧ (∀ p, p ∈ es → KeyV d p.1 ∧ FlatV p.2) ∧ Go.MapKept.Stamped arr clock
  | .nest ty sz xs => RNest E w id ty sz xs
end
def NC.rn (f : CV → CV) : NC → NC
  | .c x => .c (f x)
  | x => x
theorem isRow_rn {f : CV → CV} {xs : List (List NC)} {sz p : Nat} (h : isRow (xs.map fun x => x.map (NC.rn f)) sz p) : isRow xs sz p := by
  obtain ⟨i, j, x, ty, sz', rows, h1, h2, h3⟩ := h
  rw [List.getElem?_map] at h2
  cases hx : xs[i]? with
  | none => rw [hx] at h2; cases h2
  | some y =>
    rw [hx] at h2
    cases h2
    rw [List.getElem?_map] at h3
    cases hy : y[j]? with
    | none => rw [hy] at h3; cases h3
    | some c =>
      rw [hy] at h3
      cases c with
      | t t => cases h3
      | c x => cases h3
      | row a b r => exact ⟨i, j, y, a, b, r, h1, hx, hy⟩
/-- Other names, another world: a row whose elements hold rows. -/
theorem RNest.mono {E E' : Env} {w w' : World} {id id' ty sz : Nat} {xs : List (List NC)} {f : CV → CV} (hat : ∀ B, E.at_ id = some B → E'.at_ id' = some B) (hown : ∀ b o, E.own b o = some id → E'.own b o = some id')
    (hblk : ∀ (g : Nat) cur t, w.heap[g]? = some (.cells cur t (0, 0)) → (∀ o, E.own g o = some id) → ∃ cur', w'.heap[g]? = some (.cells cur' t (0, 0)) ∧ cur'.size = cur.size ∧ ∀ (o : Nat) v, cur[o]? = some v → cur'[o]? = some v)
    (hro : ∀ v t, RO w (fun b o => E.own b o = none) v t → RO w' (fun b o => E'.own b o = none) v t) (hrc : ∀ x, x ∈ xs → ∀ c, c ∈ x → ∀ v y, c = NC.c y → RC E w v y → RC E' w' v (f y)) (h : RNest E w id ty sz xs) : RNest E' w' id' ty sz (xs.map fun x => x.map (NC.rn f)) := by
  rcases h with ⟨h1, rfl⟩ | ⟨g, cap, cur, h1, h2, h3, h4, h5, h6, h7, h8, h9⟩
  · exact .inl ⟨hat _ h1, rfl⟩
  obtain ⟨cur', k1, k2, k3⟩ := hblk g cur ty h2 h6
  refine .inr ⟨g, cap, cur', hat _ h1, k1, by omega, by simpa using h4, h5, fun o => hown _ _ (h6 o), fun x hx => ?_, fun i x hx j c hc => ?_, fun p q v v' b hp hq hv hv' hb hb' => ?_⟩
  · obtain ⟨y, hy, rfl⟩ := List.mem_map.1 hx
    simpa using h7 y hy
  · rw [List.getElem?_map] at hx
    cases hy : xs[i]? with
    | none => rw [hy] at hx; cases hx
    | some y =>
      rw [hy] at hx
      cases hx
      rw [List.getElem?_map] at hc
      cases hz : y[j]? with
      | none => rw [hz] at hc; cases hc
      | some z =>
        rw [hz] at hc
        cases hc
        obtain ⟨v, h10, h11⟩ := h8 i y hy j z hz
        refine ⟨v, k3 _ _ h10, ?_⟩
        cases z with
        | t t => exact hro _ _ h11
        | c x => exact ⟨h11.1, hrc y (List.mem_of_getElem? hy) _ (List.mem_of_getElem? hz) v x rfl h11.2⟩
        | row a b r =>
          rcases h11 with ⟨q1, q2⟩ | ⟨g', cap', cu, o', q1, q0, q2, q3, q4, q5, q6, q7, q8, q9⟩
          · exact .inl ⟨q1, q2⟩
          · obtain ⟨cu', m1, m2, m3⟩ := hblk g' cu a q3 q7
            refine .inr ⟨g', cap', cu', o', q1, q0, q2, m1, by omega, q5, q6, fun o => hown _ _ (q7 o), q8, fun i x hx j t ht => ?_⟩
            obtain ⟨u, n1, n2⟩ := q9 i x hx j t ht
            exact ⟨u, m3 _ _ n1, hro _ _ n2⟩
  · have back : ∀ p v, isRow xs sz p → cur'[p]? = some v → cur[p]? = some v := fun p v hp hv => by
      obtain ⟨i, j, x, a, b, r, e1, e2, e3⟩ := hp
      obtain ⟨u, e4, _⟩ := h8 i x e2 j _ e3
      rw [← e1] at e4
      have := k3 _ _ e4
      rw [hv] at this
      cases this
      exact e4
    exact h9 p q v v' b (isRow_rn hp) (isRow_rn hq) (back p v (isRow_rn hp) hv) (back q v' (isRow_rn hq) hv') hb hb'
theorem rn_id (xs : List (List NC)) : (xs.map fun x => x.map (NC.rn fun y => y)) = xs := by
  have h1 : ∀ c : NC, NC.rn (fun y => y) c = c := fun c => by cases c <;> rfl
  have h2 : ∀ x : List NC, x.map (NC.rn fun y => y) = x := fun x => by
    rw [show (NC.rn fun y => y) = (fun c => c) from funext h1]
    exact List.map_id _
  simp [h2]
theorem blk_same {E : Env} {w : World} {id : Nat} (g : Nat) (cur : Array Value) (t : TypeId) (h : w.heap[g]? = some (.cells cur t (0, 0))) (_ : ∀ o, E.own g o = some id) : ∃ cur', w.heap[g]? = some (.cells cur' t (0, 0)) ∧ cur'.size = cur.size ∧ ∀ (o : Nat) v, cur[o]? = some v → cur'[o]? = some v := ⟨cur, h, rfl, fun _ _ h => h⟩

/-- Cells that the call may not turn: nobody's (none), or somebody else's (0). -/
def fixd (x : Option Nat) : Prop := x = none ∨ x = some 0
/-- A block of the world at the call, against the same block later: only cells that the call was handed may have turned. -/
def Same (p : Nat → Option Nat) (x y : Option Obj) : Prop :=
  ((∀ o, fixd (p o)) → y = x) ∧ ∀ cur ty fr, x = some (.cells cur ty fr) → ∃ cur', y = some (.cells cur' ty fr) ∧ cur'.size = cur.size ∧ ∀ o, fixd (p o) → cur'[o]? = cur[o]?

structure Ctx where
  w0 : World
  E0 : Env
  n : Nat
  n0 : Nat

/-- What the call may lean on: nothing. -/
def Pre (w : World) (E : Env) : Prop := True
/-- What has become of the world since the call. -/
structure FC (w0 : World) (E0 E : Env) (w : World) : Prop where
  pre : Pre w0 E0
  os : w.os = w0.os
  tape : w.tape = w0.tape
  output : w.output = w0.output
  size : w0.heap.size ≤ w.heap.size
  at_ : ∀ id B, E0.at_ id = some B → E.at_ id = some B
  blk : ∀ b, b < w0.heap.size → Same (E0.own b) w0.heap[b]? w.heap[b]?
  keep : ∀ b o, b < w0.heap.size → fixd (E0.own b o) → E.own b o = E0.own b o
  fresh : ∀ b o, w.heap.size ≤ b → E.own b o = none
  pos : ∀ b o, E.own b o = some 0 → E0.own b o = some 0

structure RelE (E : Env) (C : Ctx) (st : St) (a : Act) (w : World) : Prop where
  tmps : ∀ t x, look t st.tmps = some x → RT E w (a.tmps.getD t undef) x
  size : a.tmps.size = C.n
  defers : a.defers = []
  objs : ∀ id o, st.obj id = some o → RObj E w id o
  next : ∀ id, st.next ≤ id → E.at_ id = none
  zero : E.at_ 0 = none
  npos : 0 < st.next
  dom : ∀ id, C.n0 ≤ id → C.E0.at_ id = none
  fc : FC C.w0 C.E0 E w

def Rel (C : Ctx) (st : St) (a : Act) (w : World) : Prop := ∃ E, RelE E C st a w

def liftK (C : Ctx) (K : St → Prop) : Act → World → Prop := fun a w => ∃ st, K st ∧ Rel C st a w
def liftQ (C : Ctx) (Q : Exit → St → Prop) (e : Exit) (a : Act) (w : World) : Prop := ∃ st, Q e st ∧ Rel C st a w

/-- The code does from the state as Q says. -/
def am (P : Program) (C : Ctx) (c : Code) (Q : Exit → St → Prop) (st : St) : Prop := ∀ a w, Rel C st a w → c.wp P (liftQ C Q) a w
def amOps (P : Program) (C : Ctx) (ops : Array Oper) (l : List Oper) (Q : Exit → St → Prop) (st : St) : Prop := ∀ a w, Rel C st a w → wpList P ops (liftQ C Q) l a w
/-- One operation: as K says. -/
def amOp (P : Program) (C : Ctx) (o : Oper) (Q : Exit → St → Prop) (K : St → Prop) (st : St) : Prop :=
  ∀ a w, Rel C st a w → ∀ next : Act → World → Prop, (∀ a' w', liftK C K a' w' → next a' w') → o.wp P a w next (liftQ C Q)

/-! ### Code -/
section
variable {P : Program} {C : Ctx} {Q : Exit → St → Prop} {st : St}

def thenQ (K : St → Prop) (Q : Exit → St → Prop) : Exit → St → Prop
  | .normal, st => K st
  | e, st => Q e st

theorem liftQ_then {K : St → Prop} {y : Code} (h : ∀ st, K st → am P C y Q st) : ∀ e a w, liftQ C (thenQ K Q) e a w → Exit.then (y.wp P (liftQ C Q)) (liftQ C Q) e a w := by
  intro e a w hq
  cases e with
  | normal => obtain ⟨st', hk, hr⟩ := hq; exact h st' hk a w hr
  | outgrown => exact hq
  | exit id => exact hq
  | goto l => exact hq
  | ret => exact hq
  | panic ch => exact hq

theorem am_seq {x y : Code} (h : am P C x (thenQ (am P C y Q) Q) st) : am P C (.seq x y) Q st :=
  fun a w hr => wp_seq (wp_mono (h a w hr) (liftQ_then fun _ h => h))
theorem am_skip (h : Q .normal st) : am P C .skip Q st := fun _ _ hr => wp_skip ⟨st, h, hr⟩
theorem am_ret (h : Q .ret st) : am P C .ret Q st := fun _ _ hr => wp_ret ⟨st, h, hr⟩
theorem am_exit {id : Nat} (h : Q (.exit id) st) : am P C (.exit id) Q st := fun _ _ hr => wp_exit ⟨st, h, hr⟩
def blockQ (id : Nat) (Q : Exit → St → Prop) : Exit → St → Prop
  | .exit id', st => if id' = id then Q .normal st else Q (.exit id') st
  | e, st => Q e st
theorem am_block {id : Nat} {c : Code} (h : am P C c (blockQ id Q) st) : am P C (.block id c) Q st := by
  intro a w hr
  refine wp_block (wp_mono (h a w hr) ?_)
  intro e a w hq
  cases e with
  | exit id' =>
    obtain ⟨st', h1, h2⟩ := hq
    simp only [blockQ] at h1
    simp only [Exit.inBlock]
    split at h1
    · rename_i hid; rw [if_pos hid]; exact ⟨st', h1, h2⟩
    · rename_i hid; rw [if_neg hid]; exact ⟨st', h1, h2⟩
  | normal => exact hq
  | outgrown => exact hq
  | goto l => exact hq
  | ret => exact hq
  | panic ch => exact hq
theorem am_mono {c : Code} {Q' : Exit → St → Prop} (h : am P C c Q st) (hq : ∀ e st, Q e st → Q' e st) : am P C c Q' st := by
  intro a w hr
  refine wp_mono (h a w hr) ?_
  intro e a w hx
  exact hx.imp fun st' h => ⟨hq _ _ h.1, h.2⟩
/-- A state that says less. -/
theorem am_weak {c : Code} {st' : St} (hw : ∀ a w, Rel C st a w → Rel C st' a w) (h : am P C c Q st') : am P C c Q st := fun a w hr => h a w (hw a w hr)

/-- Rounds of a loop. -/
def amR (P : Program) (C : Ctx) (c : Code) (Q : Exit → St → Prop) : Nat → St → Prop
  | 0, _ => False
  | n + 1, st => am P C c (thenQ (amR P C c Q n) Q) st
theorem amR_rounds {c : Code} : ∀ (n : Nat) (st : St) (a : Act) (w : World), amR P C c Q n st → Rel C st a w → Code.rounds P c (liftQ C Q) n a w
  | 0, _, _, _, h, _ => h.elim
  | n + 1, st, a, w, h, hr => by
    rw [rounds_succ]
    refine wp_mono (h a w hr) ?_
    intro e a w hq
    cases e with
    | normal => obtain ⟨st', hk, hr'⟩ := hq; exact amR_rounds n st' a w hk hr'
    | outgrown => exact hq
    | exit id => exact hq
    | goto l => exact hq
    | ret => exact hq
    | panic ch => exact hq
theorem am_loop {c : Code} (n : Nat) (h : amR P C c Q n st) : am P C (.loop c) Q st :=
  fun a w hr => wp_loop_rounds n (amR_rounds n st a w h hr)
theorem amR_succ {c : Code} {n : Nat} (h : am P C c (thenQ (amR P C c Q n) Q) st) : amR P C c Q (n + 1) st := h
theorem amR_mono {c : Code} : ∀ {n m : Nat} {st : St}, n ≤ m → amR P C c Q n st → amR P C c Q m st
  | 0, _, _, _, h => h.elim
  | n + 1, 0, _, hl, _ => by omega
  | n + 1, m + 1, st, hl, h => am_mono h fun e st' hq => by
    cases e with
    | normal => exact amR_mono (by omega) hq
    | outgrown => exact hq
    | exit id => exact hq
    | goto l => exact hq
    | ret => exact hq
    | panic ch => exact hq

/-! ### Operations of a region -/
variable {ops : Array Oper} {l : List Oper} {o : Oper}
theorem am_region {id : Nat} (h : amOps P C ops ops.toList Q st) : am P C (.region id ops false) Q st := fun a w hr => wp_region_list (h a w hr)
theorem amOps_nil (h : Q .normal st) : amOps P C ops [] Q st := fun _ _ hr => ⟨st, h, hr⟩
theorem amOps_lift {K : St → Prop} (h : ∀ st, K st → amOps P C ops l Q st) : ∀ a w, liftK C K a w → wpList P ops (liftQ C Q) l a w := fun a w ⟨st', hk, hr⟩ => h st' hk a w hr
theorem amOps_cons (hg : o.guard = none) (h : amOp P C o Q (amOps P C ops l Q) st) : amOps P C ops (o :: l) Q st := by
  intro a w hr
  unfold wpList
  rw [if_pos (by simp [Region.wanted, hg])]
  exact .inl (h a w hr _ (amOps_lift fun _ h => h))
theorem amOp_mono {K K' : St → Prop} (h : amOp P C o Q K st) (hk : ∀ st, K st → K' st) : amOp P C o Q K' st :=
  fun a w hr next hn => h a w hr next fun a' w' ⟨st', k, r⟩ => hn a' w' ⟨st', hk _ k, r⟩
end
end Go.Proofs.YthnpbfljoghbmaaA
/- The calculus, second part: how a world may go on; what a state keeps. -/
namespace Go.Proofs.YthnpbfljoghbmaaA
set_option autoImplicit false
set_option linter.unusedVariables false

/-- The world goes on; only what belongs to the blocks ch may turn. -/
structure Step (E E' : Env) (w w' : World) (ch : Nat → Prop) : Prop where
  os : w'.os = w.os
  tape : w'.tape = w.tape
  output : w'.output = w.output
  size : w.heap.size ≤ w'.heap.size
  ch0 : ¬ ch 0
  at_ : ∀ id B, E.at_ id = some B → E'.at_ id = some B
  none_ : ∀ b o, b < w.heap.size → E.own b o = none → E'.own b o = none
  some_ : ∀ b o id, E.own b o = some id → ¬ ch id → E'.own b o = some id
  cell : ∀ b o v, w.cell? ⟨b, o, none⟩ = some v → (∀ id, E.own b o = some id → ¬ ch id) → w'.cell? ⟨b, o, none⟩ = some v
  blk : ∀ (b : Nat) cur ty fr, w.heap[b]? = some (.cells cur ty fr) → ∃ cur', w'.heap[b]? = some (.cells cur' ty fr) ∧ cur'.size = cur.size
  mp : ∀ (b id : Nat) arr clock, w.heap[b]? = some (.map arr clock) → (∀ o, E.own b o = some id) → ¬ ch id → w'.heap[b]? = some (.map arr clock)
  same : ∀ b : Nat, b < w.heap.size → (∀ o, fixd (E.own b o)) → w'.heap[b]? = w.heap[b]?
  fresh : ∀ b o, w'.heap.size ≤ b → E'.own b o = none
  pos : ∀ b o, E'.own b o = some 0 → E.own b o = some 0

theorem cell_lt {w : World} {b o : Nat} {v : Value} (h : w.cell? ⟨b, o, none⟩ = some v) : b < w.heap.size := World.block_lt_of_cell? w ⟨b, o, none⟩ h
theorem cell_cur {w : World} {b o : Nat} {v : Value} (h : w.cell? ⟨b, o, none⟩ = some v) : ∃ cur ty fr, w.heap[b]? = some (.cells cur ty fr) ∧ cur[o]? = some v := by
  unfold World.cell? at h
  split at h
  · rename_i c ty fr hb; exact ⟨c, ty, fr, hb, by simpa using h⟩
  · cases h
theorem cur_cell {w : World} {b o : Nat} {cur : Array Value} {ty : TypeId} {fr : Nat × Nat} (h : w.heap[b]? = some (.cells cur ty fr)) : w.cell? ⟨b, o, none⟩ = cur[o]? := by
  simp [World.cell?, h]

section
variable {E E' : Env} {w w' : World} {ch : Nat → Prop}

theorem Step.reads (s : Step E E' w w' ch) : ∀ b o v, E.own b o = none → w.cell? ⟨b, o, none⟩ = some v → E'.own b o = none ∧ w'.cell? ⟨b, o, none⟩ = some v := fun b o v h hc =>
  ⟨s.none_ b o (cell_lt hc) h, s.cell b o v hc fun id hid => by rw [h] at hid; cases hid⟩
theorem Step.ro (s : Step E E' w w' ch) {v : Value} {t : Tree} (h : RO w (fun b o => E.own b o = none) v t) : RO w' (fun b o => E'.own b o = none) v t := h.mono s.reads
theorem Step.rc (s : Step E E' w w' ch) {v : Value} {x : CV} (h : RC E w v x) : RC E' w' v x := by
  cases x with
  | t x => exact s.ro h
  | own id lo len => exact h.imp (fun ⟨h1, h2⟩ => ⟨s.at_ _ _ h1, h2⟩) (fun ⟨g, sz, cap, o, h1, h2⟩ => ⟨g, sz, cap, o, s.at_ _ _ h1, h2⟩)
  | ptr id off => obtain ⟨g, base, h1, h2⟩ := h; exact ⟨g, base, s.at_ _ _ h1, h2⟩
  | ifp ty id off => obtain ⟨g, base, h1, h2⟩ := h; exact ⟨g, base, s.at_ _ _ h1, h2⟩
  | ep id i j => obtain ⟨g, sz, cap, h1, h2⟩ := h; exact ⟨g, sz, cap, s.at_ _ _ h1, h2⟩
  | rp xs =>
    obtain ⟨g, o, h1, h2⟩ := h
    refine ⟨g, o, h1, fun j t ht => ?_⟩
    obtain ⟨h3, u, h4, h5⟩ := h2 j t ht
    exact ⟨(s.reads _ _ _ h3 h4).1, u, (s.reads _ _ _ h3 h4).2, s.ro h5⟩
  | irp ty xs =>
    obtain ⟨g, o, h1, h2⟩ := h
    refine ⟨g, o, h1, fun j t ht => ?_⟩
    obtain ⟨h3, u, h4, h5⟩ := h2 j t ht
    exact ⟨(s.reads _ _ _ h3 h4).1, u, (s.reads _ _ _ h3 h4).2, s.ro h5⟩
  | gv g o => obtain ⟨h1, h2, h3⟩ := h; exact ⟨(s.reads _ _ _ h1 h2).1, (s.reads _ _ _ h1 h2).2, h3⟩
  | mp id => obtain ⟨g, h1, h2⟩ := h; exact ⟨g, s.at_ _ _ h1, h2⟩
  | sq f id => obtain ⟨g, gm, h1, h2, h3, h4⟩ := h; exact ⟨g, gm, h1, (s.reads _ _ _ h2 h3).1, (s.reads _ _ _ h2 h3).2, s.at_ _ _ h4⟩
  | junk => trivial
theorem Step.rt1 (s : Step E E' w w' ch) {v : Value} {x : TV} (h : RT1 E w v x) : RT1 E' w' v x := by
  cases x with
  | c x => exact s.rc h
  | agg xs => obtain ⟨vs, h1, h2⟩ := h; exact ⟨vs, h1, h2.mono fun _ _ => s.rc⟩
  | tup xs => exact h.elim
theorem Step.rt (s : Step E E' w w' ch) {v : Value} {x : TV} (h : RT E w v x) : RT E' w' v x := by
  cases x with
  | tup xs => obtain ⟨vs, h1, h2⟩ := h; exact ⟨vs, h1, h2.mono fun _ _ => s.rt1⟩
  | c x => exact s.rc (show RC E w v x from h)
  | agg xs => exact s.rt1 (x := .agg xs) h
theorem Step.robj (s : Step E E' w w' ch) {id : Nat} (hid : ¬ ch id) {o : AObj} (h : RObj E w id o) : RObj E' w' id o := by
  cases o with
  | cells xs =>
    obtain ⟨g, base, cur, ty, h1, h2, h3, h4⟩ := h
    obtain ⟨cur', h5, h6⟩ := s.blk g cur ty _ h2
    refine ⟨g, base, cur', ty, s.at_ _ _ h1, h5, by omega, fun j x hx => ?_⟩
    obtain ⟨h7, v, h8, h9, h10⟩ := h4 j x hx
    have hc : w.cell? ⟨g, base + j, none⟩ = some v := by rw [cur_cell h2]; exact h8
    refine ⟨s.some_ _ _ _ h7 hid, v, ?_, h9, s.rc h10⟩
    rw [← cur_cell h5]
    exact s.cell _ _ _ hc fun id' hid' => by rw [h7] at hid'; cases hid'; exact hid
  | arr ty sz xs =>
    rcases h with ⟨h1, h2⟩ | ⟨g, cap, cur, h1, h2, h3, h4, h4', h5, h6, h7⟩
    · exact .inl ⟨s.at_ _ _ h1, h2⟩
    obtain ⟨cur', h8, h9⟩ := s.blk g cur ty _ h2
    refine .inr ⟨g, cap, cur', s.at_ _ _ h1, h8, by omega, h4, h4', fun o => s.some_ _ _ _ (h5 o) hid, h6, fun i x hx j t ht => ?_⟩
    obtain ⟨v, hv, hr⟩ := h7 i x hx j t ht
    have hc : w.cell? ⟨g, i * sz + j, none⟩ = some v := by rw [cur_cell h2]; exact hv
    refine ⟨v, ?_, s.ro hr⟩
    rw [← cur_cell h8]
    exact s.cell _ _ _ hc fun id' hid' => by rw [h5] at hid'; cases hid'; exact hid
  | mp d es =>
    obtain ⟨g, arr, clock, h1, h2, h3, h4, h5⟩ := h
    exact ⟨g, arr, clock, s.at_ _ _ h1, s.mp g id arr clock h2 h4 hid, h3, fun o => s.some_ _ _ _ (h4 o) hid, h5⟩
  | nest ty sz xs =>
    have := RNest.mono (f := fun y => y) (fun B hB => s.at_ _ _ hB) (fun b o ho => s.some_ _ _ _ ho hid) (fun g cur t hg ho => by
      obtain ⟨cur', k1, k2⟩ := s.blk g cur t _ hg
      refine ⟨cur', k1, k2, fun o v hv => ?_⟩
      rw [← cur_cell k1]
      exact s.cell _ _ _ (by rw [cur_cell hg]; exact hv) fun id' hid' => by rw [ho] at hid'; cases hid'; exact hid) (fun v t hv => s.ro hv) (fun x hx c hc v y e hy => s.rc hy) h
    rw [rn_id] at this
    exact this
theorem Step.fixd_ (s : Step E E' w w' ch) {b o : Nat} (hb : b < w.heap.size) (h : fixd (E.own b o)) : E'.own b o = E.own b o := by
  rcases h with h | h
  · rw [h, s.none_ b o hb h]
  · rw [h, s.some_ b o 0 h s.ch0]
/-- Later it may still be leant on. -/
theorem Pre.later {w0 w : World} {E0 E E' : Env} (h : FC w0 E0 E w) (hE : ∀ b o, E.own b o = none → E'.own b o = none) : Pre w E' := by
  trivial
theorem Step.fc {w0 : World} {E0 : Env} (s : Step E E' w w' ch) (h : FC w0 E0 E w) : FC w0 E0 E' w' where
  pre := h.pre
  os := s.os.trans h.os
  tape := s.tape.trans h.tape
  output := s.output.trans h.output
  size := Nat.le_trans h.size s.size
  at_ := fun id B hB => s.at_ id B (h.at_ id B hB)
  blk := fun b hb => by
    obtain ⟨h1, h2⟩ := h.blk b hb
    have hb' : b < w.heap.size := Nat.lt_of_lt_of_le hb h.size
    refine ⟨fun h0 => (s.same b hb' fun o => ?_).trans (h1 h0), fun cur ty fr hx => ?_⟩
    · have := h.keep b o hb (h0 o)
      rw [this]; exact h0 o
    obtain ⟨cur', h3, h4, h5⟩ := h2 cur ty fr hx
    obtain ⟨cur'', h6, h7⟩ := s.blk b cur' ty fr h3
    refine ⟨cur'', h6, by omega, fun o ho => ?_⟩
    rw [← h5 o ho]
    have hn := h.keep b o hb ho
    rcases hv : cur'[o]? with _ | v
    · rw [Array.getElem?_eq_none_iff] at hv ⊢; omega
    · rw [← cur_cell h6]
      refine s.cell _ _ _ (by rw [cur_cell h3]; exact hv) fun id hid => ?_
      rw [hn] at hid
      rcases ho with ho | ho
      · rw [ho] at hid; cases hid
      · rw [ho] at hid; cases hid; exact s.ch0
  keep := fun b o hb h0 => by
    have h1 := h.keep b o hb h0
    rw [s.fixd_ (Nat.lt_of_lt_of_le hb h.size) (by rw [h1]; exact h0), h1]
  fresh := s.fresh
  pos := fun b o he => h.pos b o (s.pos b o he)

theorem RelE.step {C : Ctx} {st st' : St} {a : Act} (h : RelE E C st a w) (s : Step E E' w w' ch) (ht : st'.tmps = st.tmps) (hn : ∀ id, st'.next ≤ id → E'.at_ id = none) (hz : E'.at_ 0 = none) (hp : 0 < st'.next)
    (ho : ∀ id o, st'.obj id = some o → (st.obj id = some o ∧ ¬ ch id) ∨ RObj E' w' id o) : RelE E' C st' a w' where
  tmps := fun t x hx => s.rt (h.tmps t x (ht ▸ hx))
  size := h.size
  defers := h.defers
  objs := fun id o hx => (ho id o hx).elim (fun ⟨h1, h2⟩ => s.robj h2 (h.objs id o h1)) (fun h => h)
  next := hn
  zero := hz
  npos := hp
  dom := h.dom
  fc := s.fc h.fc
end

theorem rtC {E : Env} {w : World} {v : Value} {x : CV} (h : RT E w v (.c x)) : RC E w v x := h
theorem rtT {E : Env} {w : World} {v : Value} {x : Tree} (h : RT E w v (.c (.t x))) : RO w (fun b o => E.own b o = none) v x := h
theorem rtA {E : Env} {w : World} {v : Value} {xs : List CV} (h : RT E w v (.agg xs)) : ∃ vs : List Value, v = .agg vs.toArray ∧ All2 (RC E w) vs xs := h

/-- Nothing turns. -/
theorem Step.refl {E : Env} {w : World} (hf : ∀ b o, w.heap.size ≤ b → E.own b o = none) : Step E E w w (fun _ => False) :=
  ⟨rfl, rfl, rfl, Nat.le_refl _, fun h => h, fun _ _ h => h, fun _ _ _ h => h, fun _ _ _ h _ => h, fun _ _ _ h _ => h, fun _ cur _ _ h => ⟨cur, h, rfl⟩, fun _ _ _ _ h _ _ => h, fun _ _ _ => rfl, hf, fun _ _ h => h⟩

section
variable {E : Env} {C : Ctx} {st : St} {a : Act} {w : World}
theorem RelE.put (h : RelE E C st a w) {dst : Option Tmp} {v : Value} {x : TV} (hx : RT E w v x) (hd : ∀ d, dst = some d → d < C.n) : RelE E C (st.put dst x) (a.put dst v) w := by
  cases dst with
  | none => exact h
  | some d =>
    have hlt := hd d rfl
    refine ⟨fun t y hy => ?_, by simp [Act.put, h.size], h.defers, h.objs, h.next, h.zero, h.npos, h.dom, h.fc⟩
    simp only [St.put, look_push] at hy
    simp only [Act.put, Array.getD_eq_getD_getElem?, Array.getElem?_setIfInBounds]
    split at hy
    · rename_i e; subst e; cases hy
      rw [if_pos rfl, if_pos (by rw [h.size]; exact hlt)]
      exact hx
    · rename_i e
      rw [if_neg (fun e' => e e'.symm)]
      have := h.tmps t y hy
      rwa [Array.getD_eq_getD_getElem?] at this
/-- What an operand's value is told as. -/
def constTV (v : Value) : TV :=
  match v with
  | .agg cs => if cs.toList.all (·.oneCell') then .agg (cs.toList.map fun v => .t (.v v)) else .c .junk
  | .tuple _ => .c .junk
  | v => .c (.t (.v v))
def St.eval (st : St) : Operand → TV
  | .tmp t => st.get t
  | .const v => constTV v
  | .global g => .c (.t (.v (.pointer (some ⟨g, 0, none⟩))))
  | .func f => .c (.t (.v (.func (.func f) #[] #[])))
theorem all2_lits {R : Value → CV → Prop} : ∀ {l : List Value}, (∀ v, v ∈ l → R v (.t (.v v))) → All2 R l (l.map fun v => .t (.v v))
  | [], _ => trivial
  | _ :: _, h => ⟨h _ List.mem_cons_self, all2_lits fun v hv => h v (List.mem_cons_of_mem _ hv)⟩
theorem rt_const (v : Value) : RT E w v (constTV v) := by
  cases v with
  | agg cs =>
    simp only [constTV]
    split
    · rename_i hall
      rw [List.all_eq_true] at hall
      exact ⟨cs.toList, by simp, all2_lits fun v hv => .v v (hall v hv)⟩
    · trivial
  | tuple vs => trivial
  | _ => exact RO.v _ rfl
theorem RelE.eval (h : RelE E C st a w) (x : Operand) : RT E w (a.eval x) (st.eval x) := by
  cases x with
  | tmp t =>
    simp only [St.eval, St.get, Act.eval]
    cases hx : look t st.tmps with
    | none => exact trivial
    | some y => exact h.tmps t y hx
  | const v => exact rt_const v
  | global g => exact .v _ rfl
  | func f => exact .v _ rfl
theorem ro_v {A : Nat → Nat → Prop} {u v : Value} (h : RO w A u (.v v)) : u = v := by
  cases h with
  | v _ _ => rfl
theorem RelE.lit (h : RelE E C st a w) {x : Operand} {v : Value} (hx : st.eval x = .c (.t (.v v))) : a.eval x = v := by
  have := h.eval x
  rw [hx] at this
  generalize a.eval x = u at this ⊢
  exact ro_v this
end
end Go.Proofs.YthnpbfljoghbmaaA
/- The calculus, third part: operations that only reckon. -/
namespace Go.Proofs.YthnpbfljoghbmaaA
set_option autoImplicit false
set_option linter.unusedVariables false

/-! ### Types, told shortly -/
inductive TK where
  | int (k : IntKind)
  | bool
  | str
  | struct (fs : List (Nat × Nat))
  | slice (e : Nat)
  | arr (n e : Nat)
  | map (k e : Nat)
  | other
structure Row where
  k : TK
  size : Nat
  bytes : Nat
  zero : List Value
def TK.isRow : TK → Bool
  | .struct _ | .arr _ _ => true
  | _ => false
def kOk (P : Program) (t : Nat) : TK → Prop
  | .int k => P.underlying t = some (.int k)
  | .bool => P.underlying t = some .bool
  | .str => P.underlying t = some .string
  | .struct fs => ∃ f : Array Field, P.underlying t = some (.struct f) ∧ f.toList.map (fun x => (x.offset, x.type)) = fs
  | .slice e => P.underlying t = some (.slice e)
  | .arr n e => P.underlying t = some (.array n e)
  | .map k e => P.underlying t = some (.map k e)
  | .other => ∃ d, P.underlying t = some d ∧ d.isRow = false
structure RowOk (P : Program) (t : Nat) (r : Row) : Prop where
  k : kOk P t r.k
  info : ∃ i, P.info? t = some i ∧ i.size = r.size ∧ i.bytes = r.bytes ∧ (∃ z, i.zero = some z ∧ z.cells.toList = r.zero ∧ (r.k.isRow = true → z = .agg r.zero.toArray)) ∧ r.zero.length = r.size ∧ r.zero.all (·.oneCell') = true ∧ (r.k.isRow = false → r.size = 1)
  one : ∀ i z, P.info? t = some i → i.zero = some z → r.k.isRow = false → z.oneCell' = true
/-- A table of types that is told rightly. -/
def TabOk (P : Program) (Γ : Nat → Option Row) : Prop := ∀ t r, Γ t = some r → RowOk P t r

theorem row_isAgg {P : Program} {t : Nat} {r : Row} (h : RowOk P t r) : ∃ d, P.underlying t = some d ∧ d.isRow = r.k.isRow := by
  have := h.k
  cases hk : r.k <;> simp only [hk, kOk] at this
  case struct fs => obtain ⟨f, h1, h2⟩ := this; exact ⟨_, h1, rfl⟩
  case other => obtain ⟨d, h1, h2⟩ := this; exact ⟨d, h1, h2⟩
  all_goals exact ⟨_, this, rfl⟩

/-! ### Plain values -/
@[reducible] def lit (v : Value) : TV := .c (.t (.v v))
def cv1 : TV → Option Value
  | .c (.t (.v u)) => some u
  | _ => none
theorem cv1_some {x : TV} {v : Value} (h : cv1 x = some v) : x = lit v := by
  unfold cv1 at h
  split at h
  · cases h; rfl
  · cases h

def cmpInt (op : BinOp) (a b : Int) : Option Bool :=
  match op with
  | .eql => some (a == b)
  | .neq => some (a != b)
  | .lss => some (decide (a < b))
  | .leq => some (decide (a ≤ b))
  | .gtr => some (decide (a > b))
  | .geq => some (decide (a ≥ b))
  | _ => none
def bAnd (k : IntKind) (a b : Int) : Int := k.wrap ((BitVec.ofInt k.bits a &&& BitVec.ofInt k.bits b).toNat)
def bOr (k : IntKind) (a b : Int) : Int := k.wrap ((BitVec.ofInt k.bits a ||| BitVec.ofInt k.bits b).toNat)
def bXor (k : IntKind) (a b : Int) : Int := k.wrap ((BitVec.ofInt k.bits a ^^^ BitVec.ofInt k.bits b).toNat)
def arithInt (op : BinOp) (k : IntKind) (a b : Int) : Option Int :=
  match op with
  | .add => some (k.wrap (a + b))
  | .sub => some (k.wrap (a - b))
  | .mul => some (k.wrap (a * b))
  | .quo => if b = 0 then none else some (k.wrap (a.tdiv b))
  | .rem => if b = 0 then none else some (a.tmod b)
  | .and => some (bAnd k a b)
  | .or => some (bOr k a b)
  | .xor => some (bXor k a b)
  | _ => none
def shiftInt (op : BinOp) (k : IntKind) (a b : Int) : Option Int :=
  match op with
  | .shl => if b < 0 then none else some (k.wrap (a * 2 ^ (min b.toNat k.bits)))
  | .shr => if b < 0 then none else some (a.fdiv (2 ^ (min b.toNat k.bits)))
  | _ => none
def isShift : BinOp → Bool
  | .shl | .shr => true
  | _ => false
def isCmp : BinOp → Bool
  | .eql | .neq | .lss | .leq | .gtr | .geq => true
  | _ => false
def strBin (op : BinOp) (s t : ByteArray) : Option Value :=
  match op with
  | .add => if ((s.size + t.size : Nat) : Int) > IntKind.i64.max then none else some (.string (s ++ t))
  | .eql => some (.bool (decide (s = t)))
  | .neq => some (.bool (!decide (s = t)))
  | .lss => some (.bool (Op.bytesLess s.toList t.toList))
  | .leq => some (.bool (Op.bytesLess s.toList t.toList || decide (s = t)))
  | .gtr => some (.bool (!(Op.bytesLess s.toList t.toList || decide (s = t))))
  | .geq => some (.bool (!Op.bytesLess s.toList t.toList))
  | _ => none
def boolBin (op : BinOp) (s t : Bool) : Option Value :=
  match op with
  | .eql => some (.bool (s == t))
  | .neq => some (.bool (!(s == t)))
  | _ => none
/-- Two plain values, one operation. -/
def binLit (op : BinOp) : Value → Value → Option Value
  | .int k a, .int k' b =>
    if isShift op = true then (shiftInt op k a b).map (.int k)
    else if k = k' then (if isCmp op = true then (cmpInt op a b).map .bool else (arithInt op k a b).map (.int k)) else none
  | .string s, .string t => strBin op s t
  | .bool s, .bool t => boolBin op s t
  | _, _ => none
def isBool : Value → Bool
  | .bool _ => true
  | _ => false

theorem bytes_eq (s t : ByteArray) : (s.toList == t.toList) = decide (s = t) := by
  rw [ByteArray.toList_eq, ByteArray.toList_eq, Bool.eq_iff_iff, beq_iff_eq, decide_eq_true_iff]
  obtain ⟨⟨x⟩⟩ := s
  obtain ⟨⟨y⟩⟩ := t
  simp

theorem run_boolEq {P : Program} {ty : TypeId} {w : World} {s t : Bool} (hb : P.underlying ty = some .bool) : (Op.equal ty (.bool s) (.bool t)).run P w = .ok (s == t) w :=
  run_equalIn_bool' w 9999 ty s t hb
theorem binLit_run {P : Program} {op : BinOp} {u v r : Value} {ty : TypeId} {x y : Operand} {w : World} (h : binLit op u v = some r) (hb : isBool u = true → P.underlying ty = some .bool) :
    (do eqGuard op ty x y u v; binOp op ty u v : Sem Value).run P w = .ok r w := by
  cases u <;> cases v <;> simp only [binLit, reduceCtorEq] at h
  case int.int k a k' b =>
    split at h
    · rename_i hs
      cases op <;> simp [isShift] at hs <;> simp [shiftInt] at h <;> obtain ⟨c, h1, rfl⟩ := h <;> obtain ⟨h0, rfl⟩ := h1 <;>
        simp [eqGuard, binOp, Op.shift, show ¬ b < 0 by omega]
    · rename_i hs
      split at h
      · rename_i hk
        subst hk
        split at h
        · rename_i hc
          cases op <;> simp [isCmp] at hc <;> simp [cmpInt] at h <;> subst h <;> simp [eqGuard, binOp, Op.intCmp]
        · rename_i hc
          cases op <;> simp [isCmp, isShift] at hc hs <;> simp [arithInt] at h <;>
            first
              | (subst h; simp [eqGuard, binOp, Op.intArith, Op.intBits, bAnd, bOr, bXor]; done)
              | (obtain ⟨c, ⟨h1, h2⟩, h3⟩ := h; subst h2; subst h3; simp [eqGuard, binOp, Op.intDiv, h1])
      · cases h
  case string.string s t =>
    cases op <;> simp [strBin] at h <;>
      first
        | (subst h; simp [eqGuard, binOp, Op.stringOp, bytes_eq]; done)
        | (obtain ⟨h1, h2⟩ := h; subst h2; simp [eqGuard, binOp, Op.stringOp]; omega)
  case bool.bool s t =>
    have hb' := hb rfl
    cases op <;> simp [boolBin] at h <;> subst h <;> simp [eqGuard, binOp, run_boolEq hb']
end Go.Proofs.YthnpbfljoghbmaaA
/- The calculus, fourth part: one operation at a time. -/
namespace Go.Proofs.YthnpbfljoghbmaaA
set_option autoImplicit false
set_option linter.unusedVariables false

def dstOk (n : Nat) (o : Oper) : Bool :=
  match o.dst with
  | some d => decide (d < n)
  | none => true
theorem dstOk_lt {n : Nat} {o : Oper} (h : dstOk n o = true) : ∀ d, o.dst = some d → d < n := by
  intro d hd
  simpa [dstOk, hd] using h

section
variable {P : Program} {Γ : Nat → Option Row} {C : Ctx} {Q : Exit → St → Prop} {st : St} {o : Oper} {K : St → Prop}

theorem amOp_pure {x : TV} (hd : dstOk C.n o = true) (hk : K (st.put o.dst x)) (hv : ∀ E a w, RelE E C st a w → ∃ v, (execOp a.eval o).run P w = .ok (.value v) w ∧ RT E w v x) : amOp P C o Q K st := by
  intro a w ⟨E, hr⟩ next hn
  obtain ⟨v, h1, h2⟩ := hv E a w hr
  unfold Oper.wp
  rw [h1]
  exact hn _ _ ⟨_, hk, E, hr.put h2 (dstOk_lt hd)⟩
theorem amOp_step {st' : St} {x : TV} (hd : dstOk C.n o = true) (hk : K (st'.put o.dst x))
    (hv : ∀ E a w, RelE E C st a w → ∃ E' v w', (execOp a.eval o).run P w = .ok (.value v) w' ∧ RelE E' C st' a w' ∧ RT E' w' v x) : amOp P C o Q K st := by
  intro a w ⟨E, hr⟩ next hn
  obtain ⟨E', v, w', h1, h2, h3⟩ := hv E a w hr
  unfold Oper.wp
  rw [h1]
  exact hn _ _ ⟨_, hk, E', h2.put h3 (dstOk_lt hd)⟩
theorem amOp_do {st' : St} (hd : dstOk C.n o = true) (hk : K (st'.put o.dst (.c .junk)))
    (hv : ∀ E a w, RelE E C st a w → ∃ E' w', (execOp a.eval o).run P w = .ok .skip w' ∧ RelE E' C st' a w') : amOp P C o Q K st := by
  intro a w ⟨E, hr⟩ next hn
  obtain ⟨E', w', h1, h2⟩ := hv E a w hr
  unfold Oper.wp
  rw [h1]
  exact hn _ _ ⟨_, hk, E', h2.put (x := .c .junk) trivial (dstOk_lt hd)⟩

theorem amOp_move {x : Operand} (ho : o.op = .move x ∨ o.op = .assign x) (hd : dstOk C.n o = true) (hk : K (st.put o.dst (st.eval x))) : amOp P C o Q K st :=
  amOp_pure hd hk fun E a w hr => ⟨a.eval x, by rcases ho with ho | ho <;> simp [execOp, ho], hr.eval x⟩

def pickTV (b : Bool) (x y : TV) : TV :=
  match cv1 x, cv1 y with
  | some (.bool p), some (.bool q) => lit (.bool (if b = true then p else q))
  | _, _ => if b = true then x else y
theorem pickTV_eq (b : Bool) (x y : TV) : pickTV b x y = if b = true then x else y := by
  unfold pickTV
  split
  · rename_i p q h1 h2
    rw [cv1_some h1, cv1_some h2]
    cases b <;> rfl
  · rfl
theorem amOp_pick {c x y : Operand} {b : Bool} (ho : o.op = .pick c x y) (hc : st.eval c = lit (.bool b)) (hd : dstOk C.n o = true) (hk : K (st.put o.dst (pickTV b (st.eval x) (st.eval y)))) : amOp P C o Q K st := by
  refine amOp_pure hd hk fun E a w hr => ?_
  refine ⟨if b = true then a.eval x else a.eval y, ?_, ?_⟩
  · have := hr.lit hc
    simp [execOp, ho, this, asBool]
  · rw [pickTV_eq]
    cases b
    · exact hr.eval y
    · exact hr.eval x

theorem amOp_bin {op : BinOp} {ty yt : TypeId} {x y : Operand} {u v r : Value} (ho : o.op = .binOp op ty x y yt) (hx : st.eval x = lit u) (hy : st.eval y = lit v) (hr : binLit op u v = some r) (hr1 : r.oneCell' = true)
    (hb : isBool u = true → P.underlying ty = some .bool) (hd : dstOk C.n o = true) (hk : K (st.put o.dst (lit r))) : amOp P C o Q K st := by
  refine amOp_pure hd hk fun E a w h => ⟨r, ?_, .v r hr1⟩
  have h1 := binLit_run (P := P) (x := x) (y := y) (w := w) hr hb
  rw [← h.lit hx, ← h.lit hy] at h1
  unfold execOp
  simp only [ho]
  rw [Sem.run_bind, h1]
  rfl

def unLit (op : UnOp) : Value → Option Value
  | .int k n => match op with
    | .neg => some (.int k (k.wrap (0 - n)))
    | .xor => some (.int k (bXor k (if k.signed then -1 else k.max) n))
    | _ => none
  | .bool b => match op with
    | .not => some (.bool (!b))
    | _ => none
  | _ => none
theorem amOp_un {op : UnOp} {ty : TypeId} {x : Operand} {u r : Value} (ho : o.op = .unOp op ty x) (hx : st.eval x = lit u) (hr : unLit op u = some r) (hd : dstOk C.n o = true) (hk : K (st.put o.dst (lit r))) : amOp P C o Q K st := by
  refine amOp_pure hd hk fun E a w h => ?_
  have h1 := h.lit hx
  cases u <;> simp only [unLit, reduceCtorEq] at hr
  case int k n => cases op <;> simp at hr <;> subst hr <;> exact ⟨_, by simp [execOp, ho, h1, Op.unary, Op.intArith, Op.intBits, bXor], .v _ rfl⟩
  case bool b => cases op <;> simp at hr <;> subst hr <;> exact ⟨_, by simp [execOp, ho, h1, Op.unary], .v _ rfl⟩

theorem amOp_conv {s d : TypeId} {x : Operand} {k k' : IntKind} {n : Int} {D : TypeDesc} (ho : o.op = .convert s d x) (hs : P.underlying s = some D) (hk' : P.underlying d = some (.int k')) (hx : st.eval x = lit (.int k n)) (hd : dstOk C.n o = true)
    (hk : K (st.put o.dst (lit (.int k' (k'.wrap n))))) : amOp P C o Q K st :=
  amOp_pure hd hk fun E a w h => ⟨_, by simp [execOp, ho, h.lit hx, convert, run_underlying hs, run_underlying hk', Conv.intToInt], .v _ rfl⟩
theorem amOp_convStr {s d : TypeId} {x : Operand} {b : ByteArray} {D : TypeDesc} (ho : o.op = .convert s d x) (hs : P.underlying s = some D) (hk' : P.underlying d = some .string) (hx : st.eval x = lit (.string b)) (hd : dstOk C.n o = true)
    (hk : K (st.put o.dst (lit (.string b)))) : amOp P C o Q K st :=
  amOp_pure hd hk fun E a w h => ⟨.string b, by simp [execOp, ho, h.lit hx, convert, run_underlying hs, run_underlying hk'], .v _ rfl⟩

/-- The values that are no nil. -/
def someTV : TV → Bool
  | .c (.ptr _ _) | .c (.ep _ _ _) | .c (.rp _) => true
  | .c (.t (.v (.func (.func _) _ _))) => true
  | _ => false
theorem amOp_nilCheck {x : Operand} (ho : o.op = .nilCheck x) (hx : someTV (st.eval x) = true) (hd : dstOk C.n o = true) (hk : K (st.put o.dst (st.eval x))) : amOp P C o Q K st := by
  refine amOp_pure hd hk fun E a w h => ?_
  have h1 := h.eval x
  refine ⟨a.eval x, ?_, h1⟩
  generalize st.eval x = y at hx h1
  unfold someTV at hx
  split at hx
  · obtain ⟨g, b, _, h2⟩ := (rtC h1); simp [execOp, ho, h2]
  · obtain ⟨g, sz, cap, _, h2⟩ := (rtC h1); simp [execOp, ho, h2]
  · obtain ⟨g, b, h2, _⟩ := (rtC h1); simp [execOp, ho, h2]
  · have h2 := ro_v (rtT h1); simp [execOp, ho, h2]
  · cases hx

/-! ### Addresses -/
def addrTV (n : Nat) : TV → Option TV
  | .c (.ptr id off) => some (.c (.ptr id (off + n)))
  | .c (.ep id i j) => some (.c (.ep id i (j + n)))
  | .c (.rp xs) => some (.c (.rp (xs.drop n)))
  | _ => none
theorem addrTV_ok {E : Env} {w : World} {n : Nat} {v : Value} {x y : TV} (h : RT E w v x) (hy : addrTV n x = some y) : ∃ g off, v = .pointer (some ⟨g, off, none⟩) ∧ RT E w (.pointer (some ⟨g, off + n, none⟩)) y := by
  unfold addrTV at hy
  split at hy
  · cases hy; obtain ⟨g, b, h1, h2⟩ := (rtC h); exact ⟨g, _, h2, g, b, h1, by rw [Nat.add_assoc]⟩
  · cases hy; obtain ⟨g, sz, cap, h1, h2⟩ := (rtC h); exact ⟨g, _, h2, g, sz, cap, h1, by rw [Nat.add_assoc]⟩
  · cases hy
    obtain ⟨g, b, h1, h2⟩ := (rtC h)
    refine ⟨g, _, h1, g, b + n, rfl, fun j t ht => ?_⟩
    rw [List.getElem?_drop] at ht
    have := h2 (n + j) t ht
    rwa [← Nat.add_assoc] at this
  · cases hy
def fieldOf (Γ : Nat → Option Row) (t f : Nat) : Option (Nat × Nat × Row) :=
  match Γ t with
  | some r => match r.k with
    | .struct fs => match fs[f]? with
      | some (off, ty) => (Γ ty).map fun q => (off, ty, q)
      | none => none
    | _ => none
  | none => none
theorem fieldOf_ok (hΓ : TabOk P Γ) {t f off ty : Nat} {q : Row} (h : fieldOf Γ t f = some (off, ty, q)) :
    ∃ fs fd, P.underlying t = some (.struct fs) ∧ fs[f]? = some fd ∧ fd.offset = off ∧ fd.type = ty ∧ RowOk P ty q := by
  unfold fieldOf at h
  split at h
  · rename_i r hr
    split at h
    · rename_i fs hk
      split at h
      · rename_i off' ty' hf
        cases hq : Γ ty' with
        | none => simp [hq] at h
        | some q' =>
          simp [hq] at h
          obtain ⟨rfl, rfl, rfl⟩ := h
          have h1 := (hΓ t r hr).k
          rw [hk] at h1
          obtain ⟨fa, h2, h3⟩ := h1
          subst h3
          rw [List.getElem?_map] at hf
          cases h4 : fa.toList[f]? with
          | none => simp [h4] at hf
          | some fd =>
            simp [h4] at hf
            refine ⟨fa, fd, h2, by simpa using h4, hf.1, hf.2, hΓ _ _ hq⟩
      · cases h
    · cases h
  · cases h
theorem amOp_fieldAddr (hΓ : TabOk P Γ) {s : TypeId} {x : Operand} {f off ty : Nat} {q : Row} {y : TV} (ho : o.op = .fieldAddr s x f) (hf : fieldOf Γ s f = some (off, ty, q)) (hq : q.size ≠ 0) (hy : addrTV off (st.eval x) = some y)
    (hd : dstOk C.n o = true) (hk : K (st.put o.dst y)) : amOp P C o Q K st := by
  refine amOp_pure hd hk fun E a w h => ?_
  obtain ⟨g, b, h1, h2⟩ := addrTV_ok (h.eval x) hy
  refine ⟨_, ?_, h2⟩
  obtain ⟨fs, fd, h3, h4, h5, h6, h7⟩ := fieldOf_ok hΓ hf
  obtain ⟨i, h8, h9, _⟩ := h7.info
  subst h5; subst h6
  simp [execOp, ho, h1, Instr.fieldAt, run_underlying h3, h4, Instr.sureAddr, fieldPlace, sizeOf, typeInfo, h8, h9, hq, Addr.add_mid]

/-! ### What lies behind an address -/
theorem choose_list {α β : Type} {R : Nat → α → β → Prop} : ∀ {ys : List β}, (∀ j y, ys[j]? = some y → ∃ v, R j v y) → ∃ vs : List α, vs.length = ys.length ∧ ∀ j v y, vs[j]? = some v → ys[j]? = some y → R j v y
  | [], _ => ⟨[], rfl, fun j v y h => by simp at h⟩
  | y :: ys, h => by
    obtain ⟨v, hv⟩ := h 0 y rfl
    obtain ⟨vs, h1, h2⟩ := choose_list (R := fun j => R (j + 1)) (ys := ys) fun j y' hy => h (j + 1) y' (by simpa using hy)
    refine ⟨v :: vs, by simp [h1], fun j u z hu hz => ?_⟩
    cases j with
    | zero => simp at hu hz; subst hu; subst hz; exact hv
    | succ j => exact h2 j u z (by simpa using hu) (by simpa using hz)
/-- Cells from one address on, told one by one. -/
structure Reads (E : Env) (w : World) (g off : Nat) (vs : List Value) (cs : List CV) : Prop where
  len : vs.length = cs.length
  range : w.rangeAt g off vs
  rc : All2 (RC E w) vs cs
theorem reads_of {E : Env} {w : World} {g off : Nat} {cs : List CV} (h : ∀ j c, cs[j]? = some c → ∃ v, w.cell? ⟨g, off + j, none⟩ = some v ∧ RC E w v c) : ∃ vs, Reads E w g off vs cs := by
  obtain ⟨vs, h1, h2⟩ := choose_list h
  refine ⟨vs, h1, fun j v hv => ?_, All2.mk h1 fun i v c hv hc => (h2 i v c hv hc).2⟩
  have hj : j < cs.length := by rw [← h1]; exact (List.getElem?_eq_some_iff.1 hv).1
  exact (h2 j v _ hv (List.getElem?_eq_getElem hj)).1
/-- What is read of a cell of a row whose elements hold rows. -/
def ncCV : NC → CV
  | .t t => .t t
  | .c x => x
  | .row _ _ _ => .junk
theorem rnc_cv {E : Env} {w : World} {id g : Nat} {v : Value} {c : NC} (h : RNC E w id g v c) : RC E w v (ncCV c) := by
  cases c with
  | t t => exact h
  | c x => exact h.2
  | row a b r => exact True.intro
/-- The cells that an address leads to. -/
def behind (st : St) : TV → Option (List CV)
  | .c (.ptr id off) => match st.obj id with
    | some (.cells xs) => some (xs.drop off)
    | _ => none
  | .c (.ep id i j) => match st.obj id with
    | some (.arr _ _ xs) => (xs[i]?).map fun x => (x.drop j).map .t
    | some (.nest _ _ xs) => (xs[i]?).map fun x => (x.drop j).map ncCV
    | _ => none
  | .c (.rp xs) => some (xs.map .t)
  | _ => none
theorem behind_ok {E : Env} {a : Act} {w : World} (hr : RelE E C st a w) {v : Value} {x : TV} {cs : List CV} (h : RT E w v x) (hb : behind st x = some cs) :
    ∃ g off, v = .pointer (some ⟨g, off, none⟩) ∧ ∀ j c, cs[j]? = some c → ∃ u, w.cell? ⟨g, off + j, none⟩ = some u ∧ RC E w u c := by
  unfold behind at hb
  split at hb
  · rename_i id off
    split at hb
    · rename_i xs hob
      cases hb
      obtain ⟨g, base, h1, h2⟩ := (rtC h)
      obtain ⟨g', base', cur, ty, h3, h4, h5, h6⟩ := hr.objs _ _ hob
      rw [h1] at h3; cases h3
      refine ⟨g, base + off, h2, fun j c hc => ?_⟩
      rw [List.getElem?_drop] at hc
      obtain ⟨_, u, h7, _, h8⟩ := h6 (off + j) c hc
      exact ⟨u, by rw [cur_cell h4, Nat.add_assoc]; exact h7, h8⟩
    · cases hb
  · rename_i id i j
    split at hb
    · rename_i ty sz xs hob
      obtain ⟨g, sz', cap, h1, h2⟩ := (rtC h)
      rcases hr.objs _ _ hob with ⟨h3, h4⟩ | ⟨g', cap', cur, h3, h4, h5, h6, h7, h8, h9, h10⟩
      · rw [h1] at h3; cases h3
      rw [h1] at h3; cases h3
      cases hx : xs[i]? with
      | none => simp [hx] at hb
      | some e =>
        simp [hx] at hb
        subst hb
        refine ⟨g, i * sz + j, h2, fun k c hc => ?_⟩
        rw [List.getElem?_drop, List.getElem?_map] at hc
        cases ht : e[j + k]? with
        | none => simp [ht] at hc
        | some t =>
          simp [ht] at hc
          subst hc
          obtain ⟨u, h11, h12⟩ := h10 i e hx (j + k) t ht
          exact ⟨u, by rw [cur_cell h4, Nat.add_assoc]; exact h11, h12⟩
    · rename_i ty sz xs hob
      obtain ⟨g, sz', cap, h1, h2⟩ := (rtC h)
      rcases hr.objs _ _ hob with ⟨h3, h4⟩ | ⟨g', cap', cur, h3, h4, h5, h6, h7, h8, h9, h10, _⟩
      · rw [h1] at h3; cases h3
      rw [h1] at h3; cases h3
      cases hx : xs[i]? with
      | none => simp [hx] at hb
      | some e =>
        simp [hx] at hb
        subst hb
        refine ⟨g, i * sz + j, h2, fun k c hc => ?_⟩
        rw [List.getElem?_drop, List.getElem?_map] at hc
        cases ht : e[j + k]? with
        | none => simp [ht] at hc
        | some t =>
          simp [ht] at hc
          subst hc
          obtain ⟨u, h11, h12⟩ := h10 i e hx (j + k) t ht
          exact ⟨u, by rw [cur_cell h4, Nat.add_assoc]; exact h11, rnc_cv h12⟩
    · cases hb
  · rename_i xs
    cases hb
    obtain ⟨g, off, h1, h2⟩ := (rtC h)
    refine ⟨g, off, h1, fun k c hc => ?_⟩
    rw [List.getElem?_map] at hc
    cases ht : xs[k]? with
    | none => simp [ht] at hc
    | some t =>
      simp [ht] at hc
      subst hc
      obtain ⟨_, u, h3, h4⟩ := h2 k t ht
      exact ⟨u, h3, h4⟩
  · cases hb
/-- A variable's value out of its cells. -/
def loadTV (r : Row) (cs : List CV) : Option TV :=
  if r.k.isRow = true then (if r.size ≤ cs.length then some (.agg (cs.take r.size)) else none)
  else match cs with
    | c :: _ => some (.c c)
    | [] => none
theorem run_isAgg {t : TypeId} {D : TypeDesc} {w : World} (hD : P.underlying t = some D) : (isAgg t).run P w = .ok D.isRow w := by
  unfold isAgg
  rw [Sem.run_bind, run_underlying hD w]
  cases D <;> rfl
theorem amOp_load (hΓ : TabOk P Γ) {t : TypeId} {x : Operand} {r : Row} {cs : List CV} {y : TV} (ho : o.op = .load t x) (ht : Γ t = some r) (hb : behind st (st.eval x) = some cs) (hy : loadTV r cs = some y) (hd : dstOk C.n o = true)
    (hk : K (st.put o.dst y)) : amOp P C o Q K st := by
  refine amOp_pure hd hk fun E a w h => ?_
  obtain ⟨g, off, h1, h2⟩ := behind_ok h (h.eval x) hb
  have hrow := hΓ t r ht
  obtain ⟨D, hD, hDr⟩ := row_isAgg hrow
  obtain ⟨i, hi, hsz, _⟩ := hrow.info
  unfold loadTV at hy
  split at hy
  · rename_i hisr
    split at hy
    · rename_i hle
      cases hy
      obtain ⟨vs, hv⟩ := reads_of (g := g) (off := off) (cs := cs.take r.size) fun j c hc => by
        rw [List.getElem?_take] at hc
        split at hc
        · exact h2 j c hc
        · cases hc
      have hl := hv.len
      rw [List.length_take, Nat.min_eq_left hle] at hl
      refine ⟨.agg vs.toArray, ?_, vs, rfl, hv.rc⟩
      have hx : a.eval x = .pointer (some ⟨g, off, none⟩) := h1
      have := run_loadAt_mid (P := P) w g off t vs D hv.range hD (by rw [hDr]; exact hisr) (by simp [hi, hl, hsz])
      unfold execOp
      simp only [ho, hx]
      rw [Sem.run_bind, this]
      rfl
    · cases hy
  · rename_i hisr
    split at hy
    · rename_i c cs'
      cases hy
      obtain ⟨u, h3, h4⟩ := h2 0 c rfl
      refine ⟨u, ?_, h4⟩
      have hx : a.eval x = .pointer (some ⟨g, off, none⟩) := h1
      have hagg : (isAgg t).run P w = .ok false w := by
        rw [run_isAgg hD, hDr, Bool.eq_false_iff.mpr hisr]
      have h3' : w.cell? ⟨g, off, none⟩ = some u := h3
      simp [execOp, ho, hx, Instr.loadAt, Instr.sureAddr, loadVar, hagg, h3']
    · cases hy
end
end Go.Proofs.YthnpbfljoghbmaaA
/- The calculus, fifth part: new blocks, stores. -/
namespace Go.Proofs.YthnpbfljoghbmaaA
set_option autoImplicit false
set_option linter.unusedVariables false

section
variable {P : Program} {Γ : Nat → Option Row} {C : Ctx} {Q : Exit → St → Prop} {st : St} {o : Oper} {K : St → Prop} {E : Env} {a : Act} {w : World}

/-! ### A new block -/
def Env.new (E : Env) (id : Nat) (B : Base) (g : Nat) : Env := ⟨fun k => if k = id then some B else E.at_ k, fun b o => if b = g then some id else E.own b o⟩
theorem step_new (h : RelE E C st a w) (B : Base) (ob : Obj) : Step E (E.new st.next B w.heap.size) w (w.alloc ob) (fun _ => False) where
  os := rfl
  tape := rfl
  output := rfl
  size := by simp
  ch0 := fun h => h
  at_ := fun id B' hB => by
    simp only [Env.new]
    rw [if_neg (fun e => by subst e; rw [h.next _ (Nat.le_refl _)] at hB; cases hB)]
    exact hB
  none_ := fun b o hb h0 => by simp only [Env.new]; rw [if_neg (by omega)]; exact h0
  some_ := fun b o id h0 _ => by
    simp only [Env.new]
    rw [if_neg (fun e => by rw [h.fc.fresh b o (by omega)] at h0; cases h0)]
    exact h0
  cell := fun b o v hc _ => by
    have hb := cell_lt hc
    rw [World.cell?_of_block (w := w) (Go.heap_alloc_old w ob b hb)]
    exact hc
  blk := fun b cur ty fr hb => ⟨cur, by
    rw [Go.heap_alloc_old w ob b (Array.getElem?_eq_some_iff.1 hb).1]; exact hb, rfl⟩
  mp := fun b id arr clock hb _ _ => by
    rw [Go.heap_alloc_old w ob b (Array.getElem?_eq_some_iff.1 hb).1]; exact hb
  same := fun b hb _ => Go.heap_alloc_old w ob b hb
  fresh := fun b o hb => by
    have hs : (w.alloc ob).heap.size = w.heap.size + 1 := by simp
    rw [hs] at hb
    simp only [Env.new]
    rw [if_neg (by omega)]
    exact h.fc.fresh b o (by omega)
  pos := fun b o he => by
    simp only [Env.new] at he
    split at he
    · have := h.npos; have := Option.some.inj he; omega
    · exact he

theorem obj_new (st : St) (ob : AObj) (id : Nat) : (st.new ob).obj id = if id = st.next then some ob else st.obj id := by
  simp [St.new, St.obj, look_upd]
theorem RelE.new (h : RelE E C st a w) (B : Base) (ob : Obj) (x : AObj) (hx : RObj (E.new st.next B w.heap.size) (w.alloc ob) st.next x) : RelE (E.new st.next B w.heap.size) C (st.new x) a (w.alloc ob) := by
  refine h.step (step_new h B ob) rfl (fun id hid => ?_) (by show (if 0 = st.next then some B else E.at_ 0) = none; rw [if_neg (Nat.ne_of_lt h.npos)]; exact h.zero) (Nat.succ_pos _) fun id y hy => ?_
  · simp only [St.new] at hid
    simp only [Env.new]
    rw [if_neg (by omega)]
    exact h.next id (by omega)
  · rw [obj_new] at hy
    split at hy
    · rename_i e; subst e; cases hy; exact .inr hx
    · exact .inl ⟨hy, fun h => h⟩

theorem RC.one {v : Value} {x : CV} (h : RC E w v x) (hx : x ≠ .junk) : v.oneCell' = true := by
  cases x with
  | t x => exact RO.one h
  | own id lo len =>
    rcases h with ⟨_, h, _⟩ | ⟨_, _, _, _, _, h, _⟩ <;> subst h <;> rfl
  | ptr id off => obtain ⟨_, _, _, h⟩ := h; subst h; rfl
  | ifp ty id off => obtain ⟨_, _, _, h⟩ := h; subst h; rfl
  | ep id i j => obtain ⟨_, _, _, _, h⟩ := h; subst h; rfl
  | rp xs => obtain ⟨_, _, h, _⟩ := h; subst h; rfl
  | irp ty xs => obtain ⟨_, _, h, _⟩ := h; subst h; rfl
  | gv g o => exact h.2.2
  | mp id => obtain ⟨_, _, h⟩ := h; subst h; rfl
  | sq f id => obtain ⟨_, _, h, _⟩ := h; subst h; rfl
  | junk => exact absurd rfl hx
def isJunk : CV → Bool
  | .junk => true
  | _ => false
theorem ne_junk {x : CV} (h : isJunk x = false) : x ≠ .junk := by intro e; subst e; cases h
/-- A value's cells. -/
def tvCells : TV → Option (List CV)
  | .c x => if isJunk x = true then none else some [x]
  | .agg xs => if xs.any isJunk = true then none else some xs
  | .tup _ => none
theorem cells_one {v : Value} (h : v.oneCell' = true) : v.cells = #[v] := by cases v <;> first | rfl | cases h
theorem tvCells_ok {v : Value} {x : TV} {cs : List CV} (h : RT E w v x) (hc : tvCells x = some cs) : ∃ vs : List Value, v.cells = vs.toArray ∧ All2 (RC E w) vs cs ∧ ∀ u, u ∈ vs → u.oneCell' = true := by
  cases x with
  | c x =>
    simp only [tvCells] at hc
    split at hc
    · cases hc
    · rename_i hj
      cases hc
      have h1 := RC.one (rtC h) (ne_junk (by simpa using hj))
      exact ⟨[v], cells_one h1, ⟨rtC h, trivial⟩, fun u hu => by simp at hu; subst hu; exact h1⟩
  | agg xs =>
    simp only [tvCells] at hc
    split at hc
    · cases hc
    · rename_i hj
      cases hc
      obtain ⟨vs, h1, h2⟩ := rtA h
      subst h1
      refine ⟨vs, rfl, h2, fun u hu => ?_⟩
      obtain ⟨i, hi, rfl⟩ := List.getElem_of_mem hu
      have hl := h2.length
      obtain ⟨u', h3, h4⟩ := h2.get (i := i) (b := cs[i]'(by omega)) (List.getElem?_eq_getElem (by omega))
      rw [List.getElem?_eq_getElem hi] at h3
      cases h3
      refine RC.one h4 (ne_junk ?_)
      simp only [List.any_eq_true, not_exists, not_and] at hj
      exact Bool.eq_false_iff.mpr (hj _ (List.getElem_mem (by omega)))
  | tup xs => cases hc

theorem robj_cells_new (h : RelE E C st a w) {vs : List Value} {cs : List CV} (ty : TypeId) (h2 : All2 (RC E w) vs cs) (h1 : ∀ u, u ∈ vs → u.oneCell' = true) :
    RObj (E.new st.next (.cell w.heap.size 0) w.heap.size) (w.alloc (.cells vs.toArray ty)) st.next (.cells cs) := by
  refine ⟨w.heap.size, 0, vs.toArray, ty, by simp [Env.new], Go.heap_alloc_new w _, by simp [h2.length], fun j x hx => ⟨by simp [Env.new], ?_⟩⟩
  obtain ⟨v, h3, h4⟩ := h2.get hx
  exact ⟨v, by simpa using h3, h1 v (List.mem_of_getElem? h3), (step_new h _ _).rc h4⟩

theorem amOp_box {t : TypeId} {x : Operand} {cs : List CV} (ho : o.op = .box t x) (hc : tvCells (st.eval x) = some cs) (hd : dstOk C.n o = true) (hk : K ((st.new (.cells cs)).put o.dst (.c (.ptr st.next 0)))) : amOp P C o Q K st := by
  refine amOp_step hd hk fun E a w h => ?_
  obtain ⟨vs, h1, h2, h3⟩ := tvCells_ok (h.eval x) hc
  refine ⟨_, .pointer (some ⟨w.heap.size, 0, none⟩), w.alloc (.cells vs.toArray t), ?_, h.new (.cell w.heap.size 0) _ _ (robj_cells_new h t h2 h3), ⟨w.heap.size, 0, by simp [Env.new], rfl⟩⟩
  simp [execOp, ho, Instr.box, newVar, newRow, h1]

theorem all2_zero {vs : List Value} (h : vs.all (·.oneCell') = true) : All2 (RC E w) vs (vs.map fun v => .t (.v v)) :=
  all2_lits fun v hv => .v v (List.all_eq_true.1 h v hv)
theorem amOp_alloc (hΓ : TabOk P Γ) {t : TypeId} {r : Row} (ho : o.op = .alloc t) (ht : Γ t = some r) (hd : dstOk C.n o = true)
    (hk : K ((st.new (.cells (r.zero.map fun v => .t (.v v)))).put o.dst (.c (.ptr st.next 0)))) : amOp P C o Q K st := by
  refine amOp_step hd hk fun E a w h => ?_
  obtain ⟨i, hi, _, _, ⟨z, hz, hzc, _⟩, _, hall, _⟩ := (hΓ t r ht).info
  refine ⟨_, .pointer (some ⟨w.heap.size, 0, none⟩), w.alloc (.cells r.zero.toArray t), ?_, h.new (.cell w.heap.size 0) _ _ (robj_cells_new h t (all2_zero hall) (List.all_eq_true.1 hall)), ⟨w.heap.size, 0, by simp [Env.new], rfl⟩⟩
  have hzz : z.cells = r.zero.toArray := Array.toList_inj.1 (by simpa using hzc)
  simp [execOp, ho, Instr.alloc, newVar, newRow, zeroValue, typeInfo, hi, hz, hzz]

/-! ### Stores -/
def splice {α : Type} (xs : List α) (off : Nat) (cs : List α) : List α := xs.take off ++ cs ++ xs.drop (off + cs.length)
theorem splice_get {α : Type} {xs : List α} {off : Nat} {cs : List α} (h : off + cs.length ≤ xs.length) (j : Nat) : (splice xs off cs)[j]? = if off ≤ j ∧ j < off + cs.length then cs[j - off]? else xs[j]? := by
  unfold splice
  have hl : (xs.take off).length = off := by rw [List.length_take]; omega
  by_cases h1 : j < off
  · rw [List.append_assoc, List.getElem?_append_left (by omega), List.getElem?_take, if_pos h1, if_neg (by omega)]
  · by_cases h2 : j < off + cs.length
    · rw [List.append_assoc, List.getElem?_append_right (by omega), List.getElem?_append_left (by omega), hl, if_pos ⟨by omega, h2⟩]
    · rw [List.getElem?_append_right (by simp [hl]; omega), if_neg (by omega), List.getElem?_drop]
      congr 1
      simp [hl]
      omega
theorem splice_length {α : Type} {xs : List α} {off : Nat} {cs : List α} (h : off + cs.length ≤ xs.length) : (splice xs off cs).length = xs.length := by
  simp [splice]; omega

theorem setCells_heap_ne (b : Nat) : ∀ (vs : List Value) (o : Nat) (w : World) (k : Nat), k ≠ b → (w.setCells b o vs).heap[k]? = w.heap[k]?
  | [], _, _, _, _ => rfl
  | v :: vs, o, w, k, h => by
    show ((w.setCell ⟨b, o, none⟩ v).setCells b (o + 1) vs).heap[k]? = _
    rw [setCells_heap_ne b vs _ _ k h, Go.heap_setCell_other _ _ _ _ h]
theorem setCells_cur (b : Nat) : ∀ (vs : List Value) (o : Nat) (w : World) (cur : Array Value) (ty : TypeId) (fr : Nat × Nat), w.heap[b]? = some (.cells cur ty fr) →
    ∃ cur', (w.setCells b o vs).heap[b]? = some (.cells cur' ty fr) ∧ cur'.size = cur.size ∧ ∀ j : Nat, j < cur.size → cur'[j]? = if o ≤ j ∧ j < o + vs.length then vs[j - o]? else cur[j]?
  | [], o, w, cur, ty, fr, h => ⟨cur, h, rfl, fun j hj => by rw [if_neg (by simp <;> omega)]⟩
  | v :: vs, o, w, cur, ty, fr, h => by
    have h1 : (w.setCell ⟨b, o, none⟩ v).heap[b]? = some (.cells (cur.setIfInBounds o v) ty fr) := by
      simp only [World.setCell, Array.getElem?_modify, if_true, h]
      rfl
    obtain ⟨cur', h2, h3, h4⟩ := setCells_cur b vs (o + 1) _ _ _ _ h1
    refine ⟨cur', h2, by simpa using h3, fun j hj => ?_⟩
    rw [h4 j (by simpa using hj)]
    by_cases hjo : j = o
    · subst hjo
      rw [if_neg (by omega), if_pos ⟨by omega, by simp⟩]
      simp [hj]
    · by_cases hin : o ≤ j ∧ j < o + (v :: vs).length
      · rw [if_pos (by simp at hin ⊢; omega), if_pos hin]
        obtain ⟨k, rfl⟩ : ∃ k, j = o + 1 + k := ⟨j - (o + 1), by omega⟩
        rw [show o + 1 + k - (o + 1) = k by omega, show o + 1 + k - o = k + 1 by omega]
        simp
      · rw [if_neg (by simp at hin ⊢; omega), if_neg hin, Array.getElem?_setIfInBounds, if_neg (Ne.symm hjo)]
theorem setCells_meta (b : Nat) : ∀ (vs : List Value) (o : Nat) (w : World), (w.setCells b o vs).os = w.os ∧ (w.setCells b o vs).tape = w.tape ∧ (w.setCells b o vs).output = w.output ∧ (w.setCells b o vs).heap.size = w.heap.size
  | [], _, _ => ⟨rfl, rfl, rfl, rfl⟩
  | v :: vs, o, w => by
    have := setCells_meta b vs (o + 1) (w.setCell ⟨b, o, none⟩ v)
    simpa [World.setCells, World.setCell] using this

/-- A store into cells that all belong to one block of the call's own. -/
theorem obj_pos (h : RelE E C st a w) {id : Nat} {x : AObj} (hx : st.obj id = some x) : id ≠ 0 := by
  intro e
  subst e
  have := h.objs _ _ hx
  cases x with
  | cells xs => obtain ⟨g, b, c, t, h1, _⟩ := this; rw [h.zero] at h1; cases h1
  | arr ty sz xs =>
    rcases this with ⟨h1, _⟩ | ⟨g, cap, cur, h1, _⟩ <;> rw [h.zero] at h1 <;> cases h1
  | mp d es => obtain ⟨g, _, _, h1, _⟩ := this; rw [h.zero] at h1; cases h1
  | nest ty sz xs => rcases this with ⟨h1, _⟩ | ⟨g, cap, cur, h1, _⟩ <;> (rw [h.zero] at h1; cases h1)
theorem step_store (h : RelE E C st a w) {g o : Nat} {vs : List Value} {id : Nat} (hid : id ≠ 0) (hown : ∀ j, j < vs.length → E.own g (o + j) = some id) : Step E E w (w.setCells g o vs) (fun k => k = id) where
  os := (setCells_meta g vs o w).1
  tape := (setCells_meta g vs o w).2.1
  output := (setCells_meta g vs o w).2.2.1
  size := Nat.le_of_eq (setCells_meta g vs o w).2.2.2.symm
  ch0 := fun h => hid h.symm
  at_ := fun _ _ h => h
  none_ := fun _ _ _ h => h
  some_ := fun _ _ _ h _ => h
  cell := fun b o' v hc hn => by
    by_cases hb : b = g
    · subst hb
      obtain ⟨cur, ty, fr, h1, h2⟩ := cell_cur hc
      obtain ⟨cur', h3, h4, h5⟩ := setCells_cur b vs o w cur ty fr h1
      rw [cur_cell h3, h5 o' (Array.getElem?_eq_some_iff.1 h2).1, if_neg, h2]
      intro hin
      have := hown (o' - o) (by omega)
      rw [show o + (o' - o) = o' by omega] at this
      exact hn id this rfl
    · rw [World.cell?_of_block (w := w) (setCells_heap_ne g vs o w b hb)]
      exact hc
  blk := fun b cur ty fr hb => by
    by_cases hg : b = g
    · subst hg
      obtain ⟨cur', h3, h4, _⟩ := setCells_cur b vs o w cur ty fr hb
      exact ⟨cur', h3, h4⟩
    · exact ⟨cur, (setCells_heap_ne g vs o w b hg).trans hb, rfl⟩
  mp := fun b id' arr clock hb ho hn => by
    by_cases hg : b = g
    · subst hg
      cases vs with
      | nil => exact hb
      | cons v vs =>
        have h1 := hown 0 (by simp)
        rw [ho] at h1
        exact absurd (Option.some.inj h1) hn
    · exact (setCells_heap_ne g vs o w b hg).trans hb
  same := fun b hb hn => by
    by_cases hg : b = g
    · subst hg
      cases vs with
      | nil => rfl
      | cons v vs =>
        have h1 := hown 0 (by simp)
        rw [Nat.add_zero] at h1
        rcases hn o with h2 | h2
        · rw [h2] at h1; cases h1
        · rw [h2] at h1; cases h1; exact absurd rfl hid
    · exact setCells_heap_ne g vs o w b hg
  fresh := fun b o' hb => h.fc.fresh b o' (by rw [(setCells_meta g vs o w).2.2.2] at hb; exact hb)
  pos := fun _ _ h => h

theorem run_storeAt_any {v : Value} {vs : List Value} {g off : Nat} {t : TypeId} (hc : v.cells = vs.toArray) (ht : w.there g off vs.length) (hi : (P.info? t).map (·.size) = some vs.length) (h1 : ∀ u, u ∈ vs → u.oneCell' = true) :
    (Instr.storeAt t (.pointer (some ⟨g, off, none⟩)) v).run P w = .ok () (w.setCells g off vs) := by
  have h2 := run_storeVar_mid (P := P) w g off t vs.toArray (by simpa using ht) (by simpa using hi) (Array.all_eq_true_iff_forall_mem.2 (fun v hv => h1 v (by simpa using hv)))
  have h3 : storeVar t ⟨g, off, none⟩ v = storeVar t ⟨g, off, none⟩ (.agg vs.toArray) := by unfold storeVar; rw [hc]; rfl
  simp only [Instr.storeAt, Instr.sureAddr, Sem.run_bind, Sem.run_pure, Result.andThen_ok, h3, h2]

theorem amOp_storePtr (hΓ : TabOk P Γ) {t : TypeId} {x y : Operand} {r : Row} {id off : Nat} {xs cs : List CV} (ho : o.op = .store t x y) (ht : Γ t = some r) (hx : st.eval x = .c (.ptr id off)) (hob : st.obj id = some (.cells xs))
    (hc : tvCells (st.eval y) = some cs) (hl : cs.length = r.size) (hfit : off + cs.length ≤ xs.length) (hd : dstOk C.n o = true) (hk : K ((st.setObj id (.cells (splice xs off cs))).put o.dst (.c .junk))) : amOp P C o Q K st := by
  refine amOp_do hd hk fun E a w h => ?_
  obtain ⟨vs, h1, h2, h3⟩ := tvCells_ok (h.eval y) hc
  have hxx := h.eval x
  rw [hx] at hxx
  obtain ⟨g, base, h4, h5⟩ := rtC hxx
  obtain ⟨g', base', cur, ty, h6, h7, h8, h9⟩ := h.objs _ _ hob
  rw [h4] at h6; cases h6
  have hvl := h2.length
  have hown : ∀ j, j < vs.length → E.own g (base + off + j) = some id := fun j hj => by
    rw [Nat.add_assoc]
    exact (h9 (off + j) _ (List.getElem?_eq_getElem (by omega))).1
  have hs := step_store h (vs := vs) (obj_pos h hob) hown
  refine ⟨E, w.setCells g (base + off) vs, ?_, h.step hs rfl h.next h.zero h.npos fun k z hz => ?_⟩
  · obtain ⟨i, hi, hsz, _⟩ := (hΓ t r ht).info
    have hx' : a.eval x = .pointer (some ⟨g, base + off, none⟩) := h5
    have hthere : w.there g (base + off) vs.length := fun j hj => by
      obtain ⟨_, u, h10, _⟩ := h9 (off + j) _ (List.getElem?_eq_getElem (by omega))
      refine ⟨?_, frozen_of_row w g _ cur ty h7⟩
      rw [cur_cell h7, Nat.add_assoc, h10]
      rfl
    have hrun := run_storeAt_any (P := P) (t := t) h1 hthere (by simp [hi, hsz]; omega) h3
    unfold execOp
    simp only [ho, hx']
    rw [Sem.run_bind, hrun]
    rfl
  · simp only [St.setObj, St.obj, look_upd] at hz
    split at hz
    · rename_i e
      subst e
      cases hz
      right
      obtain ⟨cur', h10, h11, h12⟩ := setCells_cur g vs (base + off) w cur ty (0, 0) h7
      refine ⟨g, base, cur', ty, h4, h10, by rw [splice_length hfit, h11]; exact h8, fun j c hc' => ?_⟩
      have hj : j < xs.length := by rw [← splice_length hfit]; exact (List.getElem?_eq_some_iff.1 hc').1
      refine ⟨(h9 j _ (List.getElem?_eq_getElem hj)).1, ?_⟩
      rw [splice_get hfit] at hc'
      rw [h12 (base + j) (by omega)]
      split at hc'
      · rename_i hin
        rw [if_pos (by omega), show base + j - (base + off) = j - off by omega]
        obtain ⟨v, h13, h14⟩ := h2.get hc'
        exact ⟨v, h13, h3 v (List.mem_of_getElem? h13), hs.rc h14⟩
      · rename_i hin
        rw [if_neg (by omega)]
        obtain ⟨_, v, h13, h14, h15⟩ := h9 j c hc'
        exact ⟨v, h13, h14, hs.rc h15⟩
    · rename_i e
      exact .inl ⟨hz, fun e' => e e'⟩
end
end Go.Proofs.YthnpbfljoghbmaaA
/- The calculus, sixth part: slices and strings read, rows written at an index. -/
namespace Go.Proofs.YthnpbfljoghbmaaA
set_option autoImplicit false
set_option linter.unusedVariables false

section
variable {P : Program} {Γ : Nat → Option Row} {C : Ctx} {Q : Exit → St → Prop} {st : St} {o : Oper} {K : St → Prop} {E : Env} {a : Act} {w : World}

theorem row_size (hΓ : TabOk P Γ) {e : Nat} {r : Row} (h : Γ e = some r) : (P.info? e).map (·.size) = some r.size := by
  obtain ⟨i, hi, hs, _⟩ := (hΓ e r h).info
  simp [hi, hs]
theorem run_sizeOf (hΓ : TabOk P Γ) {e : Nat} {r : Row} (h : Γ e = some r) : (sizeOf e).run P w = .ok r.size w := by
  obtain ⟨i, hi, hs, _⟩ := (hΓ e r h).info
  simp [sizeOf, typeInfo, hi, hs]

/-- What is told of a slice that is read. -/
theorem ro_slice {A : Nat → Nat → Prop} {v : Value} {sz : Nat} {xs : List (List Tree)} (h : RO w A v (.sl sz xs)) :
    ∃ (ad : Option Addr) (cap g off : Nat) (f : Nat → Nat → Value), v = .slice ad xs.length cap ∧ xs.length ≤ cap ∧ xs.length ≤ maxLen ∧ (∀ x, x ∈ xs → x.length = sz) ∧ (xs ≠ [] → ad = some ⟨g, off, none⟩) ∧
      (∀ i j, i < xs.length → j < sz → A g (off + i * sz + j) ∧ w.cell? ⟨g, off + i * sz + j, none⟩ = some (f i j)) ∧ (∀ i x, xs[i]? = some x → ∀ j t, x[j]? = some t → RO w A (f i j) t) := by
  cases h with
  | sl ad cap _ _ g off f h1 h2 h3 h4 h5 h6 => exact ⟨ad, cap, g, off, f, rfl, h1, h2, h3, h4, h5, h6⟩

theorem amOp_indexRo (hΓ : TabOk P Γ) {t e : TypeId} {x ix : Operand} {r : Row} {k : IntKind} {n : Int} {sz : Nat} {xs : List (List Tree)} {el : List Tree} (ho : o.op = .indexAddr t x ix) (ht : P.underlying t = some (.slice e)) (he : Γ e = some r)
    (hx : st.eval x = .c (.t (.sl sz xs))) (hsz : r.size = sz) (hi : st.eval ix = lit (.int k n)) (h0 : 0 ≤ n) (hel : xs[n.toNat]? = some el) (hd : dstOk C.n o = true) (hk : K (st.put o.dst (.c (.rp el)))) : amOp P C o Q K st := by
  refine amOp_pure hd hk fun E a w h => ?_
  have h1 := h.eval x
  rw [hx] at h1
  obtain ⟨ad, cap, g, off, f, h2, h3, h4, h5, h6, h7, h8⟩ := ro_slice (rtT h1)
  have hlt : n.toNat < xs.length := (List.getElem?_eq_some_iff.1 hel).1
  have had := h6 (by intro e; rw [e] at hlt; exact absurd hlt (Nat.not_lt_zero _))
  subst had
  refine ⟨.pointer (some ⟨g, off + n.toNat * sz, none⟩), ?_, g, _, rfl, fun j t ht' => ?_⟩
  · have hii := h.lit hi
    subst hsz
    have h9 : 0 ≤ n ∧ n < (xs.length : Int) := ⟨h0, by omega⟩
    simp [execOp, ho, h2, hii, Instr.indexAt, asIntOf, run_underlying ht, h9, run_sizeOf hΓ he, Addr.add_mid]
  · have hel' : el ∈ xs := List.mem_of_getElem? hel
    have hj : j < sz := by rw [← h5 el hel']; exact (List.getElem?_eq_some_iff.1 ht').1
    exact ⟨(h7 _ j hlt hj).1, _, (h7 _ j hlt hj).2, h8 _ _ hel _ _ ht'⟩

theorem amOp_indexOwn (hΓ : TabOk P Γ) {t e : TypeId} {x ix : Operand} {r : Row} {k : IntKind} {n : Int} {sz id lo len ty : Nat} {xs : List (List Tree)} (ho : o.op = .indexAddr t x ix) (ht : P.underlying t = some (.slice e)) (he : Γ e = some r)
    (hx : st.eval x = .c (.own id lo len)) (hob : st.obj id = some (.arr ty sz xs)) (hsz : r.size = sz) (hi : st.eval ix = lit (.int k n)) (h0 : 0 ≤ n) (hlt : n.toNat < len) (hd : dstOk C.n o = true)
    (hk : K (st.put o.dst (.c (.ep id (lo + n.toNat) 0)))) : amOp P C o Q K st := by
  refine amOp_pure hd hk fun E a w h => ?_
  have h1 := h.eval x
  rw [hx] at h1
  rcases rtC h1 with ⟨_, _, _, h2⟩ | ⟨g, sz', cap, of, h2, h3, h4, h5⟩
  · omega
  rcases h.objs _ _ hob with ⟨h6, _⟩ | ⟨g', cap', cur, h6, _⟩
  · rw [h2] at h6; cases h6
  rw [h2] at h6; cases h6
  have hii := h.lit hi
  subst hsz
  have h9 : 0 ≤ n ∧ n < (len : Int) := ⟨h0, by omega⟩
  refine ⟨_, ?_, g, r.size, cap, h2, rfl⟩
  simp [execOp, ho, h3, hii, Instr.indexAt, asIntOf, run_underlying ht, h9, run_sizeOf hΓ he, Addr.add_mid, h5 (by omega), Nat.add_mul]

theorem amOp_indexNest (hΓ : TabOk P Γ) {t e : TypeId} {x ix : Operand} {r : Row} {k : IntKind} {n : Int} {sz id lo len ty : Nat} {xs : List (List NC)} (ho : o.op = .indexAddr t x ix) (ht : P.underlying t = some (.slice e)) (he : Γ e = some r)
    (hx : st.eval x = .c (.own id lo len)) (hob : st.obj id = some (.nest ty sz xs)) (hsz : r.size = sz) (hi : st.eval ix = lit (.int k n)) (h0 : 0 ≤ n) (hlt : n.toNat < len) (hd : dstOk C.n o = true)
    (hk : K (st.put o.dst (.c (.ep id (lo + n.toNat) 0)))) : amOp P C o Q K st := by
  refine amOp_pure hd hk fun E a w h => ?_
  have h1 := h.eval x
  rw [hx] at h1
  rcases rtC h1 with ⟨_, _, _, h2⟩ | ⟨g, sz', cap, of, h2, h3, h4, h5⟩
  · omega
  rcases h.objs _ _ hob with ⟨h6, _⟩ | ⟨g', cap', cur, h6, _⟩
  · rw [h2] at h6; cases h6
  rw [h2] at h6; cases h6
  have hii := h.lit hi
  subst hsz
  have h9 : 0 ≤ n ∧ n < (len : Int) := ⟨h0, by omega⟩
  refine ⟨_, ?_, g, r.size, cap, h2, rfl⟩
  simp [execOp, ho, h3, hii, Instr.indexAt, asIntOf, run_underlying ht, h9, run_sizeOf hΓ he, Addr.add_mid, h5 (by omega), Nat.add_mul]

theorem amOp_indexStr {t : TypeId} {x ix : Operand} {k : IntKind} {n : Int} {s : ByteArray} {b : UInt8} (ho : o.op = .index t x ix) (ht : P.underlying t = some .string) (hx : st.eval x = lit (.string s)) (hi : st.eval ix = lit (.int k n)) (h0 : 0 ≤ n)
    (hb : s[n.toNat]? = some b) (hd : dstOk C.n o = true) (hk : K (st.put o.dst (lit (.int .u8 b.toNat)))) : amOp P C o Q K st :=
  amOp_pure hd hk fun E a w h => ⟨_, by simp [execOp, ho, h.lit hx, h.lit hi, Instr.index, asIntOf, run_underlying ht, h0, hb], .v _ rfl⟩

/-- A slice's length. -/
def lenTV : TV → Option Nat
  | .c (.t (.sl _ xs)) => some xs.length
  | .c (.own _ _ len) => some len
  | .c (.t (.v (.slice none n _))) => some n
  | _ => none
theorem lenTV_ok {v : Value} {x : TV} {n : Nat} (h : RT E w v x) (hn : lenTV x = some n) : ∃ ad cap, v = .slice ad n cap := by
  unfold lenTV at hn
  split at hn
  · cases hn; obtain ⟨ad, cap, g, off, f, h2, _⟩ := ro_slice (rtT h); exact ⟨ad, cap, h2⟩
  · cases hn
    rcases rtC h with ⟨_, h1, _, h2⟩ | ⟨g, sz', cap, of, h2, h3, _⟩
    · subst h2; exact ⟨none, 0, h1⟩
    · exact ⟨_, _, h3⟩
  · cases hn; exact ⟨none, _, ro_v (rtT h)⟩
  · cases hn
theorem amOp_lenSlice {t e rt : TypeId} {x : Operand} {n : Nat} (ho : o.op = .call { callee := .builtin .len, args := #[x], argTypes := #[t] }) (ht : P.underlying t = some (.slice e)) (hx : lenTV (st.eval x) = some n) (hd : dstOk C.n o = true)
    (hk : K (st.put o.dst (lit (.int .i64 n)))) : amOp P C o Q K st := by
  refine amOp_pure hd hk fun E a w h => ?_
  obtain ⟨ad, cap, h1⟩ := lenTV_ok (h.eval x) hx
  refine ⟨.int .i64 n, ?_, .v _ rfl⟩
  simp [execOp, ho, resolve, invoke, builtin, Builtin.len_, h1, run_underlying ht, goInt]
theorem amOp_lenStr {t : TypeId} {x : Operand} {s : ByteArray} (ho : o.op = .call { callee := .builtin .len, args := #[x], argTypes := #[t] }) (ht : P.underlying t = some .string) (hx : st.eval x = lit (.string s)) (hd : dstOk C.n o = true)
    (hk : K (st.put o.dst (lit (.int .i64 s.size)))) : amOp P C o Q K st :=
  amOp_pure hd hk fun E a w h => ⟨.int .i64 s.size, by simp [execOp, ho, resolve, invoke, builtin, Builtin.len_, h.lit hx, run_underlying ht, goInt], .v _ rfl⟩

theorem amOp_extract {x : Operand} {i : Nat} {xs : List TV} {y : TV} (ho : o.op = .extract x i) (hx : st.eval x = .tup xs) (hy : xs[i]? = some y) (hd : dstOk C.n o = true) (hk : K (st.put o.dst y)) : amOp P C o Q K st := by
  refine amOp_pure hd hk fun E a w h => ?_
  have h1 := h.eval x
  rw [hx] at h1
  obtain ⟨vs, h2, h3⟩ := h1
  obtain ⟨v, h4, h5⟩ := h3.get hy
  refine ⟨v, ?_, ?_⟩
  · have h4' : vs.toArray[i]? = some v := by simpa using h4
    simp [execOp, ho, h2, Instr.extract, h4']
  · cases y with
    | tup _ => exact h5.elim
    | c _ => exact h5
    | agg _ => exact h5

theorem amOp_field (hΓ : TabOk P Γ) {t : TypeId} {x : Operand} {f off ty : Nat} {q : Row} {xs : List CV} {y : TV} (ho : o.op = .field t x f) (hf : fieldOf Γ t f = some (off, ty, q)) (hx : st.eval x = .agg xs) (hy : loadTV q (xs.drop off) = some y)
    (hd : dstOk C.n o = true) (hk : K (st.put o.dst y)) : amOp P C o Q K st := by
  refine amOp_pure hd hk fun E a w h => ?_
  have h1 := h.eval x
  rw [hx] at h1
  obtain ⟨vs, h2, h3⟩ := h1
  obtain ⟨fs, fd, h4, h5, h6, h7, h8⟩ := fieldOf_ok hΓ hf
  obtain ⟨D, hD, hDr⟩ := row_isAgg h8
  obtain ⟨i, hi, hsz, _⟩ := h8.info
  subst h6; subst h7
  unfold loadTV at hy
  split at hy
  · rename_i hisr
    split at hy
    · rename_i hle
      cases hy
      refine ⟨.agg ((vs.drop fd.offset).take q.size).toArray, ?_, _, rfl, (h3.drop _).take _⟩
      have hp : (part fd.type vs.toArray fd.offset).run P w = .ok (.agg (vs.toArray.extract fd.offset (fd.offset + q.size))) w := by
        unfold part
        rw [Sem.run_bind, run_isAgg hD, hDr, hisr]
        simp [sizeOf, typeInfo, hi, hsz]
      have he : vs.toArray.extract fd.offset (fd.offset + q.size) = ((vs.drop fd.offset).take q.size).toArray := by
        apply Array.toList_inj.1
        simp
      rw [he] at hp
      simp [execOp, ho, h2, Instr.field, run_underlying h4, h5, asAgg, hp]
    · cases hy
  · rename_i hisr
    split at hy
    · rename_i c cs hcs
      cases hy
      have hg : xs[fd.offset]? = some c := by
        have := congrArg (·[0]?) hcs
        simpa using this
      obtain ⟨v, h9, h10⟩ := h3.get hg
      refine ⟨v, ?_, h10⟩
      have hp : (part fd.type vs.toArray fd.offset).run P w = .ok v w := by
        unfold part
        rw [Sem.run_bind, run_isAgg hD, hDr, Bool.eq_false_iff.mpr hisr]
        simp [h9]
      simp [execOp, ho, h2, Instr.field, run_underlying h4, h5, asAgg, hp]
    · cases hy

/-! ### A slice cut -/
/-- The bounds of a cut: low and high, if they are told and fit. -/
def cutOf (st : St) (lo hi : Option Operand) (len : Nat) : Option (Nat × Nat) :=
  match (match lo with | none => some 0 | some x => match cv1 (st.eval x) with | some (.int _ n) => if 0 ≤ n then some n.toNat else none | _ => none),
        (match hi with | none => some len | some x => match cv1 (st.eval x) with | some (.int _ n) => if 0 ≤ n then some n.toNat else none | _ => none) with
  | some l, some h => if l ≤ h ∧ h ≤ len then some (l, h) else none
  | _, _ => none
theorem run_bounds {len cap l h : Nat} {lo hi : Option Operand} (hr : RelE E C st a w) (hb : cutOf st lo hi len = some (l, h)) (hcap : len ≤ cap) (isS : Bool) (hS : isS = false → cap = len) :
    l ≤ h ∧ h ≤ len ∧ (Instr.sliceBounds isS len cap (lo.map a.eval) (hi.map a.eval) none).run P w = .ok (l, h, cap) w := by
  unfold cutOf at hb
  split at hb
  · rename_i l' h' hl hh
    split at hb
    · rename_i hle
      cases hb
      refine ⟨hle.1, hle.2, ?_⟩
      have e1 : ∀ {x : Operand} {m : Nat} {y : Nat} {cd : BoundsCode}, (match cv1 (st.eval x) with | some (.int _ n) => if 0 ≤ n then some n.toNat else none | _ => none) = some m → m ≤ y → (Instr.sliceBound (a.eval x) y cd).run P w = .ok m w := by
        intro x m y cd hm hy
        split at hm
        · rename_i k n hc
          split at hm
          · rename_i h0
            cases hm
            have h1 := hr.lit (cv1_some hc)
            rw [h1]
            have h2 : 0 ≤ n ∧ n ≤ (y : Int) := ⟨h0, by omega⟩
            simp [Instr.sliceBound, asIntOf, h2]
          · cases hm
        · cases hm
      cases lo with
      | none =>
        cases hl
        cases hi with
        | none => cases hh; simp [Instr.sliceBounds]
        | some y => simp [Instr.sliceBounds, e1 hh (show h ≤ cap by omega)]
      | some x =>
        cases hi with
        | none => cases hh; simp [Instr.sliceBounds, e1 hl hle.1]
        | some y => simp [Instr.sliceBounds, e1 hh (show h ≤ cap by omega), e1 hl hle.1]
    · cases hb
  · cases hb
def cutTV (x : TV) (l h : Nat) : Option TV :=
  match x with
  | .c (.t (.sl sz xs)) => some (.c (.t (.sl sz ((xs.take h).drop l))))
  | .c (.own id lo _) => some (.c (.own id (lo + l) (h - l)))
  | .c (.t (.v (.slice none 0 0))) => some (.c (.t (.v (.slice none 0 0))))
  | _ => none
theorem amOp_cut (hΓ : TabOk P Γ) {t e : TypeId} {x : Operand} {lo hi : Option Operand} {r : Row} {n l h : Nat} {y : TV} (ho : o.op = .slice t x lo hi none) (ht : P.underlying t = some (.slice e)) (he : Γ e = some r)
    (hn : lenTV (st.eval x) = some n) (hb : cutOf st lo hi n = some (l, h)) (hy : cutTV (st.eval x) l h = some y) (hsz : ∀ sz xs, st.eval x = .c (.t (.sl sz xs)) → r.size = sz)
    (hso : ∀ id l0 len, st.eval x = .c (.own id l0 len) → ∃ ty xs, st.obj id = some (.arr ty r.size xs)) (hd : dstOk C.n o = true) (hk : K (st.put o.dst y)) : amOp P C o Q K st := by
  refine amOp_pure hd hk fun E a w hr => ?_
  have h1 := hr.eval x
  have hrun : ∀ ad cap, a.eval x = .slice ad n cap → n ≤ cap → (execOp a.eval o).run P w = .ok (.value (.slice (if cap = l then ad else ad.map (·.add (l * r.size))) (h - l) (cap - l))) w ∧ l ≤ h ∧ h ≤ n := by
    intro ad cap hv hc
    obtain ⟨h2, h3, h4⟩ := run_bounds (P := P) hr hb hc true (by simp)
    refine ⟨?_, h2, h3⟩
    simp [execOp, ho, hv, Instr.sliceAt, Instr.slice, run_underlying ht, h4, run_sizeOf hΓ he]
  generalize hX : st.eval x = X at *
  unfold cutTV at hy
  split at hy
  · rename_i sz xs
    cases hy
    obtain ⟨ad, cap, g, off, f, h2, h3, h4, h5, h6, h7, h8⟩ := ro_slice (rtT h1)
    cases hn
    obtain ⟨h9, h10, h11⟩ := hrun ad cap h2 h3
    have := hsz sz xs rfl
    subst this
    refine ⟨_, h9, ?_⟩
    have hlen : ((xs.take h).drop l).length = h - l := by rw [List.length_drop, List.length_take]; omega
    have hget : ∀ i, ((xs.take h).drop l)[i]? = if l + i < h then xs[l + i]? else none := fun i => by rw [List.getElem?_drop, List.getElem?_take]
    rw [← hlen]
    refine RO.sl (g := g) (off := off + l * r.size) (f := fun i j => f (l + i) j) _ _ _ _ (by rw [hlen]; omega) (by rw [hlen]; omega) (fun y hy => h5 y (List.mem_of_mem_take (List.mem_of_mem_drop hy))) (fun hne => ?_) (fun i j hi hj => ?_) (fun i y hy j t ht' => ?_)
    · have hpos : 0 < ((xs.take h).drop l).length := by
        cases hq : (xs.take h).drop l with
        | nil => exact absurd hq hne
        | cons _ _ => simp
      have hne' : xs ≠ [] := by intro e; subst e; simp at hpos
      rw [h6 hne', if_neg (by omega)]
      simp [Addr.add_mid]
    · rw [hlen] at hi
      have := h7 (l + i) j (by omega) hj
      rwa [Nat.add_mul, ← Nat.add_assoc] at this
    · rw [hget] at hy
      split at hy
      · exact h8 _ _ hy _ _ ht'
      · cases hy
  · rename_i id l0 len
    cases hy
    cases hn
    rcases rtC h1 with ⟨h2, h3, h4, h5⟩ | ⟨g, sz', cap, of, h2, h3, h4, h5⟩
    · subst h4; subst h5
      obtain ⟨h6, h7, h8⟩ := hrun none 0 h3 (Nat.le_refl _)
      obtain ⟨rfl, rfl⟩ : l = 0 ∧ h = 0 := by omega
      exact ⟨_, h6, .inl ⟨h2, by simp, rfl, rfl⟩⟩
    · obtain ⟨h6, h7, h8⟩ := hrun _ _ h3 (by omega)
      obtain ⟨ty, xs, hob⟩ := hso id l0 _ rfl
      rcases hr.objs _ _ hob with ⟨h9, _⟩ | ⟨g', cap', cur, h9, _⟩
      · rw [h2] at h9; cases h9
      rw [h2] at h9; cases h9
      refine ⟨_, h6, .inr ⟨g, r.size, cap, if cap - l0 = l then of else of + l * r.size, h2, ?_, by omega, fun hlt => ?_⟩⟩
      · rw [Nat.sub_sub]
        split <;> simp [Addr.add_mid]
      · rw [if_neg (by omega), h5 (by omega), Nat.add_mul]
  · cases hy
    cases hn
    have h2 := ro_v (rtT h1)
    obtain ⟨h6, h7, h8⟩ := hrun none 0 h2 (Nat.le_refl _)
    obtain ⟨rfl, rfl⟩ : l = 0 ∧ h = 0 := by omega
    exact ⟨_, h6, .v _ rfl⟩
  · cases hy
theorem amOp_cutStr {t : TypeId} {x : Operand} {lo hi : Option Operand} {s : ByteArray} {l h : Nat} (ho : o.op = .slice t x lo hi none) (ht : P.underlying t = some .string) (hx : st.eval x = lit (.string s)) (hb : cutOf st lo hi s.size = some (l, h))
    (hd : dstOk C.n o = true) (hk : K (st.put o.dst (lit (.string (s.extract l h))))) : amOp P C o Q K st := by
  refine amOp_pure hd hk fun E a w hr => ⟨.string (s.extract l h), ?_, .v _ rfl⟩
  obtain ⟨h2, h3, h4⟩ := run_bounds (P := P) hr hb (Nat.le_refl _) false (by simp)
  simp [execOp, ho, hr.lit hx, Instr.sliceAt, Instr.slice, run_underlying ht, h4]
end
end Go.Proofs.YthnpbfljoghbmaaA
