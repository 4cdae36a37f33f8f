/- A calculus over plain states: memory is told as a short list of blocks that the call owns, slices that came in are told as lists; each rule is proved against the walk's own 'wp'. No program and no law in sight. -/
import Derived.Tactics
import Derived.Laws.AppendOwn
import Derived.LoopN
namespace Go.Proofs.YtaolgdpkcbfocaaDoorA
set_option autoImplicit false
set_option linter.unusedVariables false

/-! ### Values without addresses -/
/-- What is read and never written: a one-cell value, or a slice told as the list of its elements' cells. -/
inductive Tree where
  | v (x : Value)
  | sl (sz : Nat) (xs : List (List Tree))

/-- One cell: what is read; a slice of a row of the call's own; an address into a block of the call's own; into a row of its own; into cells that are only read. -/
inductive CV where
  | t (x : Tree)
  | own (id lo len : Nat)
  | ptr (id off : Nat)
  | ifp (ty id off : Nat)
  | ep (id i j : Nat)
  | rp (xs : List Tree)
  | irp (ty : Nat) (xs : List Tree)
  | junk

inductive TV where
  | c (x : CV)
  | agg (xs : List CV)
  | tup (xs : List TV)

/-- A block of the call's own: the cells of a variable; a row that may be appended to. -/
inductive AObj where
  | cells (xs : List CV)
  | arr (ty sz : Nat) (xs : List (List Tree))

structure St where
  tmps : List (Nat × TV)
  objs : List (Nat × AObj)
  next : Nat

/-- Where a block of the call's own lies. -/
inductive Base where
  | cell (g base : Nat)
  | arr (g sz cap : Nat)
  | nil

structure Env where
  at_ : Nat → Option Base
  own : Nat → Nat → Option Nat

def look {α : Type} (t : Nat) : List (Nat × α) → Option α
  | [] => none
  | (s, x) :: l => if t = s then some x else look t l
def upd {α : Type} (t : Nat) (x : α) : List (Nat × α) → List (Nat × α)
  | [] => [(t, x)]
  | (s, y) :: l => if t = s then (s, x) :: l else (s, y) :: upd t x l
def push {α : Type} (t : Nat) (x : α) (l : List (Nat × α)) : List (Nat × α) := (t, x) :: l
def del {α : Type} (t : Nat) : List (Nat × α) → List (Nat × α)
  | [] => []
  | (s, y) :: l => if t = s then del t l else (s, y) :: del t l

theorem look_push {α : Type} (t s : Nat) (x : α) (l : List (Nat × α)) : look s (push t x l) = if s = t then some x else look s l := rfl
theorem look_upd {α : Type} (t s : Nat) (x : α) (l : List (Nat × α)) : look s (upd t x l) = if s = t then some x else look s l := by
  induction l with
  | nil => simp [upd, look]
  | cons p l ih =>
    obtain ⟨k, y⟩ := p
    simp only [upd]
    by_cases h : t = k
    · subst h
      by_cases hs : s = t
      · subst hs; simp [look]
      · simp [look, hs]
    · simp only [h, if_false, look, ih]
      by_cases hs : s = k
      · subst hs; simp [Ne.symm h]
      · simp [hs]
theorem look_del {α : Type} (t s : Nat) (l : List (Nat × α)) : look s (del t l) = if s = t then none else look s l := by
  induction l with
  | nil => simp [del, look]
  | cons p l ih =>
    obtain ⟨k, y⟩ := p
    simp only [del]
    by_cases h : t = k
    · subst h
      by_cases hs : s = t
      · subst hs; simpa using ih
      · simp [look, hs, ih]
    · simp only [h, if_false, look, ih]
      by_cases hs : s = k
      · subst hs; simp [Ne.symm h]
      · simp [hs]

namespace St
def get (st : St) (t : Nat) : TV := (look t st.tmps).getD (.c .junk)
def obj (st : St) (id : Nat) : Option AObj := look id st.objs
def put (st : St) (dst : Option Tmp) (x : TV) : St :=
  match dst with
  | some d => { st with tmps := push d x st.tmps }
  | none => st
def setObj (st : St) (id : Nat) (o : AObj) : St := { st with objs := upd id o st.objs }
def delObj (st : St) (id : Nat) : St := { st with objs := del id st.objs }
/-- A new block. -/
def new (st : St) (o : AObj) : St := { st with objs := upd st.next o st.objs, next := st.next + 1 }
end St

/-! ### What a state says of a frame and a world -/
def All2 {α β : Type} (R : α → β → Prop) : List α → List β → Prop
  | [], [] => True
  | a :: as, b :: bs => R a b ∧ All2 R as bs
  | _, _ => False

theorem All2.length {α β : Type} {R : α → β → Prop} : ∀ {as : List α} {bs : List β}, All2 R as bs → as.length = bs.length
  | [], [], _ => rfl
  | _ :: _, _ :: _, h => by simp [All2.length h.2]
  | [], _ :: _, h => h.elim
  | _ :: _, [], h => h.elim
theorem All2.mono {α β : Type} {R R' : α → β → Prop} (hr : ∀ a b, R a b → R' a b) : ∀ {as : List α} {bs : List β}, All2 R as bs → All2 R' as bs
  | [], [], _ => trivial
  | _ :: _, _ :: _, h => ⟨hr _ _ h.1, All2.mono hr h.2⟩
  | [], _ :: _, h => h.elim
  | _ :: _, [], h => h.elim
theorem All2.get {α β : Type} {R : α → β → Prop} : ∀ {as : List α} {bs : List β}, All2 R as bs → ∀ {i : Nat} {b : β}, bs[i]? = some b → ∃ a, as[i]? = some a ∧ R a b
  | [], [], _, i, b, h => by simp at h
  | a :: _, _ :: _, h, 0, b, hb => by simp at hb; subst hb; exact ⟨a, rfl, h.1⟩
  | _ :: _, _ :: _, h, i + 1, b, hb => by simpa using All2.get h.2 (i := i) (by simpa using hb)
  | [], _ :: _, h, _, _, _ => h.elim
  | _ :: _, [], h, _, _, _ => h.elim
theorem All2.mk {α β : Type} {R : α → β → Prop} : ∀ {as : List α} {bs : List β}, as.length = bs.length → (∀ (i : Nat) (a : α) (b : β), as[i]? = some a → bs[i]? = some b → R a b) → All2 R as bs
  | [], [], _, _ => trivial
  | a :: as, b :: bs, hl, h => ⟨h 0 a b rfl rfl, All2.mk (by simpa using hl) fun i x y hx hy => h (i + 1) x y (by simpa using hx) (by simpa using hy)⟩
  | [], _ :: _, hl, _ => by simp at hl
  | _ :: _, [], hl, _ => by simp at hl
theorem All2.append {α β : Type} {R : α → β → Prop} : ∀ {as : List α} {bs : List β} {as' : List α} {bs' : List β}, All2 R as bs → All2 R as' bs' → All2 R (as ++ as') (bs ++ bs')
  | [], [], _, _, _, h => h
  | _ :: _, _ :: _, _, _, h, h' => ⟨h.1, All2.append h.2 h'⟩
  | [], _ :: _, _, _, h, _ => h.elim
  | _ :: _, [], _, _, h, _ => h.elim
theorem All2.drop {α β : Type} {R : α → β → Prop} : ∀ {as : List α} {bs : List β} (n : Nat), All2 R as bs → All2 R (as.drop n) (bs.drop n)
  | _, _, 0, h => by simpa using h
  | [], [], _ + 1, _ => trivial
  | _ :: _, _ :: _, n + 1, h => by simpa using All2.drop n h.2
  | [], _ :: _, _ + 1, h => h.elim
  | _ :: _, [], _ + 1, h => h.elim
theorem All2.take {α β : Type} {R : α → β → Prop} : ∀ {as : List α} {bs : List β} (n : Nat), All2 R as bs → All2 R (as.take n) (bs.take n)
  | _, _, 0, _ => by simp [All2]
  | [], [], _ + 1, _ => trivial
  | _ :: _, _ :: _, n + 1, h => by simpa using ⟨h.1, All2.take n h.2⟩
  | [], _ :: _, _ + 1, h => h.elim
  | _ :: _, [], _ + 1, h => h.elim

/-- A value reads as a tree; A: the cells that may be read. -/
inductive RO (w : World) (A : Nat → Nat → Prop) : Value → Tree → Prop
  | v (x : Value) (h : x.oneCell' = true) : RO w A x (.v x)
  | sl (a : Option Addr) (cap sz : Nat) (xs : List (List Tree)) (g off : Nat) (f : Nat → Nat → Value)
      (hcap : xs.length ≤ cap) (hmax : xs.length ≤ maxLen) (hsz : ∀ x, x ∈ xs → x.length = sz) (ha : xs ≠ [] → a = some ⟨g, off, none⟩)
      (hc : ∀ i j, i < xs.length → j < sz → A g (off + i * sz + j) ∧ w.cell? ⟨g, off + i * sz + j, none⟩ = some (f i j))
      (ht : ∀ i x, xs[i]? = some x → ∀ j t, x[j]? = some t → RO w A (f i j) t) : RO w A (.slice a xs.length cap) (.sl sz xs)

theorem RO.one {w : World} {A : Nat → Nat → Prop} {v : Value} {t : Tree} (h : RO w A v t) : v.oneCell' = true := by
  cases h with
  | v x h => exact h
  | sl => rfl

theorem RO.mono {w w' : World} {A A' : Nat → Nat → Prop} (hw : ∀ b o v, A b o → w.cell? ⟨b, o, none⟩ = some v → A' b o ∧ w'.cell? ⟨b, o, none⟩ = some v) {v : Value} {t : Tree} (h : RO w A v t) : RO w' A' v t := by
  induction h with
  | v x h => exact .v x h
  | sl a cap sz xs g off f hcap hmax hsz ha hc ht ih => exact .sl a cap sz xs g off f hcap hmax hsz ha (fun i j hi hj => hw _ _ _ (hc i j hi hj).1 (hc i j hi hj).2) ih

section
variable (E : Env) (w : World)
/-- A cell's value. -/
def RC (v : Value) : CV → Prop
  | .t x => RO w (fun b o => E.own b o = none) v x
  | .own id lo len => (E.at_ id = some .nil ∧ v = .slice none 0 0 ∧ lo = 0 ∧ len = 0) ∨
      ∃ g sz cap o, E.at_ id = some (.arr g sz cap) ∧ v = .slice (some ⟨g, o, none⟩) len (cap - lo) ∧ lo + len ≤ cap ∧ (lo < cap → o = lo * sz)
  | .ptr id off => ∃ g base, E.at_ id = some (.cell g base) ∧ v = .pointer (some ⟨g, base + off, none⟩)
  | .ifp ty id off => ∃ g base, E.at_ id = some (.cell g base) ∧ v = .iface ty (.pointer (some ⟨g, base + off, none⟩))
  | .ep id i j => ∃ g sz cap, E.at_ id = some (.arr g sz cap) ∧ v = .pointer (some ⟨g, i * sz + j, none⟩)
  | .rp xs => ∃ g o, v = .pointer (some ⟨g, o, none⟩) ∧ ∀ j t, xs[j]? = some t → E.own g (o + j) = none ∧ ∃ u, w.cell? ⟨g, o + j, none⟩ = some u ∧ RO w (fun b o => E.own b o = none) u t
  | .irp ty xs => ∃ g o, v = .iface ty (.pointer (some ⟨g, o, none⟩)) ∧ ∀ j t, xs[j]? = some t → E.own g (o + j) = none ∧ ∃ u, w.cell? ⟨g, o + j, none⟩ = some u ∧ RO w (fun b o => E.own b o = none) u t
  | .junk => True
def RT1 (v : Value) : TV → Prop
  | .c x => RC E w v x
  | .agg xs => ∃ vs : List Value, v = .agg vs.toArray ∧ All2 (RC E w) vs xs
  | .tup _ => False
def RT (v : Value) : TV → Prop
  | .tup xs => ∃ vs : List Value, v = .tuple vs.toArray ∧ All2 (RT1 E w) vs xs
  | x => RT1 E w v x
def RObj (id : Nat) : AObj → Prop
  | .cells xs => ∃ g base cur ty, E.at_ id = some (.cell g base) ∧ w.heap[g]? = some (.cells cur ty (0, 0)) ∧ base + xs.length ≤ cur.size ∧
      ∀ j x, xs[j]? = some x → E.own g (base + j) = some id ∧ ∃ v, cur[base + j]? = some v ∧ v.oneCell' = true ∧ RC E w v x
  | .arr ty sz xs => (E.at_ id = some .nil ∧ xs = []) ∨
      ∃ g cap cur, E.at_ id = some (.arr g sz cap) ∧ w.heap[g]? = some (.cells cur ty (0, 0)) ∧ cur.size = cap * sz ∧ xs.length ≤ cap ∧ cap ≤ maxLen ∧ (∀ o, E.own g o = some id) ∧
        (∀ x, x ∈ xs → x.length = sz) ∧ ∀ i x, xs[i]? = some x → ∀ j t, x[j]? = some t → ∃ v, cur[i * sz + j]? = some v ∧ RO w (fun b o => E.own b o = none) v t
end

/-- Cells that the call may not turn: nobody's (none), or somebody else's (0). -/
def fixd (x : Option Nat) : Prop := x = none ∨ x = some 0
/-- A block of the world at the call, against the same block later: only cells that the call was handed may have turned. -/
def Same (p : Nat → Option Nat) (x y : Option Obj) : Prop :=
  ((∀ o, fixd (p o)) → y = x) ∧ ∀ cur ty fr, x = some (.cells cur ty fr) → ∃ cur', y = some (.cells cur' ty fr) ∧ cur'.size = cur.size ∧ ∀ o, fixd (p o) → cur'[o]? = cur[o]?

structure Ctx where
  w0 : World
  E0 : Env
  n : Nat
  n0 : Nat

/-- The table of sixteen words. -/
def nibL : List Int := [0, 498536548, 997073096, 651767980, 1994146192, 1802195444, 1303535960, 1342533948, 3988292384, 4027552580, 3604390888, 3412177804, 2607071920, 2262029012, 2685067896, 3183342108]
/-- What the call may lean on: the table is laid, and nobody's. -/
def Pre (w : World) (E : Env) : Prop := (∀ i : Nat, i < 16 → w.cell? ⟨1, i, none⟩ = some (.int .u32 (nibL.getD i 0))) ∧ ∀ o, E.own 1 o = none
/-- What has become of the world since the call. -/
structure FC (w0 : World) (E0 E : Env) (w : World) : Prop where
  pre : Pre w0 E0
  os : w.os = w0.os
  tape : w.tape = w0.tape
  output : w.output = w0.output
  size : w0.heap.size ≤ w.heap.size
  at_ : ∀ id B, E0.at_ id = some B → E.at_ id = some B
  blk : ∀ b, b < w0.heap.size → Same (E0.own b) w0.heap[b]? w.heap[b]?
  keep : ∀ b o, b < w0.heap.size → fixd (E0.own b o) → E.own b o = E0.own b o
  fresh : ∀ b o, w.heap.size ≤ b → E.own b o = none
  pos : ∀ b o, E.own b o = some 0 → E0.own b o = some 0

structure RelE (E : Env) (C : Ctx) (st : St) (a : Act) (w : World) : Prop where
  tmps : ∀ t x, look t st.tmps = some x → RT E w (a.tmps.getD t undef) x
  size : a.tmps.size = C.n
  defers : a.defers = []
  objs : ∀ id o, st.obj id = some o → RObj E w id o
  next : ∀ id, st.next ≤ id → E.at_ id = none
  zero : E.at_ 0 = none
  npos : 0 < st.next
  dom : ∀ id, C.n0 ≤ id → C.E0.at_ id = none
  fc : FC C.w0 C.E0 E w

def Rel (C : Ctx) (st : St) (a : Act) (w : World) : Prop := ∃ E, RelE E C st a w

def liftK (C : Ctx) (K : St → Prop) : Act → World → Prop := fun a w => ∃ st, K st ∧ Rel C st a w
def liftQ (C : Ctx) (Q : Exit → St → Prop) (e : Exit) (a : Act) (w : World) : Prop := ∃ st, Q e st ∧ Rel C st a w

/-- The code does from the state as Q says. -/
def am (P : Program) (C : Ctx) (c : Code) (Q : Exit → St → Prop) (st : St) : Prop := ∀ a w, Rel C st a w → c.wp P (liftQ C Q) a w
def amOps (P : Program) (C : Ctx) (ops : Array Oper) (l : List Oper) (Q : Exit → St → Prop) (st : St) : Prop := ∀ a w, Rel C st a w → wpList P ops (liftQ C Q) l a w
/-- One operation: as K says. -/
def amOp (P : Program) (C : Ctx) (o : Oper) (Q : Exit → St → Prop) (K : St → Prop) (st : St) : Prop :=
  ∀ a w, Rel C st a w → ∀ next : Act → World → Prop, (∀ a' w', liftK C K a' w' → next a' w') → o.wp P a w next (liftQ C Q)

/-! ### Code -/
section
variable {P : Program} {C : Ctx} {Q : Exit → St → Prop} {st : St}

def thenQ (K : St → Prop) (Q : Exit → St → Prop) : Exit → St → Prop
  | .normal, st => K st
  | e, st => Q e st

theorem liftQ_then {K : St → Prop} {y : Code} (h : ∀ st, K st → am P C y Q st) : ∀ e a w, liftQ C (thenQ K Q) e a w → Exit.then (y.wp P (liftQ C Q)) (liftQ C Q) e a w := by
  intro e a w hq
  cases e with
  | normal => obtain ⟨st', hk, hr⟩ := hq; exact h st' hk a w hr
  | outgrown => exact hq
  | exit id => exact hq
  | goto l => exact hq
  | ret => exact hq
  | panic ch => exact hq

theorem am_seq {x y : Code} (h : am P C x (thenQ (am P C y Q) Q) st) : am P C (.seq x y) Q st :=
  fun a w hr => wp_seq (wp_mono (h a w hr) (liftQ_then fun _ h => h))
theorem am_skip (h : Q .normal st) : am P C .skip Q st := fun _ _ hr => wp_skip ⟨st, h, hr⟩
theorem am_ret (h : Q .ret st) : am P C .ret Q st := fun _ _ hr => wp_ret ⟨st, h, hr⟩
theorem am_exit {id : Nat} (h : Q (.exit id) st) : am P C (.exit id) Q st := fun _ _ hr => wp_exit ⟨st, h, hr⟩
def blockQ (id : Nat) (Q : Exit → St → Prop) : Exit → St → Prop
  | .exit id', st => if id' = id then Q .normal st else Q (.exit id') st
  | e, st => Q e st
theorem am_block {id : Nat} {c : Code} (h : am P C c (blockQ id Q) st) : am P C (.block id c) Q st := by
  intro a w hr
  refine wp_block (wp_mono (h a w hr) ?_)
  intro e a w hq
  cases e with
  | exit id' =>
    obtain ⟨st', h1, h2⟩ := hq
    simp only [blockQ] at h1
    simp only [Exit.inBlock]
    split at h1
    · rename_i hid; rw [if_pos hid]; exact ⟨st', h1, h2⟩
    · rename_i hid; rw [if_neg hid]; exact ⟨st', h1, h2⟩
  | normal => exact hq
  | outgrown => exact hq
  | goto l => exact hq
  | ret => exact hq
  | panic ch => exact hq
theorem am_mono {c : Code} {Q' : Exit → St → Prop} (h : am P C c Q st) (hq : ∀ e st, Q e st → Q' e st) : am P C c Q' st := by
  intro a w hr
  refine wp_mono (h a w hr) ?_
  intro e a w hx
  exact hx.imp fun st' h => ⟨hq _ _ h.1, h.2⟩
/-- A state that says less. -/
theorem am_weak {c : Code} {st' : St} (hw : ∀ a w, Rel C st a w → Rel C st' a w) (h : am P C c Q st') : am P C c Q st := fun a w hr => h a w (hw a w hr)

/-- Rounds of a loop. -/
def amR (P : Program) (C : Ctx) (c : Code) (Q : Exit → St → Prop) : Nat → St → Prop
  | 0, _ => False
  | n + 1, st => am P C c (thenQ (amR P C c Q n) Q) st
theorem amR_rounds {c : Code} : ∀ (n : Nat) (st : St) (a : Act) (w : World), amR P C c Q n st → Rel C st a w → Code.rounds P c (liftQ C Q) n a w
  | 0, _, _, _, h, _ => h.elim
  | n + 1, st, a, w, h, hr => by
    rw [rounds_succ]
    refine wp_mono (h a w hr) ?_
    intro e a w hq
    cases e with
    | normal => obtain ⟨st', hk, hr'⟩ := hq; exact amR_rounds n st' a w hk hr'
    | outgrown => exact hq
    | exit id => exact hq
    | goto l => exact hq
    | ret => exact hq
    | panic ch => exact hq
theorem am_loop {c : Code} (n : Nat) (h : amR P C c Q n st) : am P C (.loop c) Q st :=
  fun a w hr => wp_loop_rounds n (amR_rounds n st a w h hr)
theorem amR_succ {c : Code} {n : Nat} (h : am P C c (thenQ (amR P C c Q n) Q) st) : amR P C c Q (n + 1) st := h
theorem amR_mono {c : Code} : ∀ {n m : Nat} {st : St}, n ≤ m → amR P C c Q n st → amR P C c Q m st
  | 0, _, _, _, h => h.elim
  | n + 1, 0, _, hl, _ => by omega
  | n + 1, m + 1, st, hl, h => am_mono h fun e st' hq => by
    cases e with
    | normal => exact amR_mono (by omega) hq
    | outgrown => exact hq
    | exit id => exact hq
    | goto l => exact hq
    | ret => exact hq
    | panic ch => exact hq

/-! ### Operations of a region -/
variable {ops : Array Oper} {l : List Oper} {o : Oper}
theorem am_region {id : Nat} (h : amOps P C ops ops.toList Q st) : am P C (.region id ops false) Q st := fun a w hr => wp_region_list (h a w hr)
theorem amOps_nil (h : Q .normal st) : amOps P C ops [] Q st := fun _ _ hr => ⟨st, h, hr⟩
theorem amOps_lift {K : St → Prop} (h : ∀ st, K st → amOps P C ops l Q st) : ∀ a w, liftK C K a w → wpList P ops (liftQ C Q) l a w := fun a w ⟨st', hk, hr⟩ => h st' hk a w hr
theorem amOps_cons (hg : o.guard = none) (h : amOp P C o Q (amOps P C ops l Q) st) : amOps P C ops (o :: l) Q st := by
  intro a w hr
  unfold wpList
  rw [if_pos (by simp [Region.wanted, hg])]
  exact .inl (h a w hr _ (amOps_lift fun _ h => h))
theorem amOp_mono {K K' : St → Prop} (h : amOp P C o Q K st) (hk : ∀ st, K st → K' st) : amOp P C o Q K' st :=
  fun a w hr next hn => h a w hr next fun a' w' ⟨st', k, r⟩ => hn a' w' ⟨st', hk _ k, r⟩
end
end Go.Proofs.YtaolgdpkcbfocaaDoorA
