/- The calculus, thirteenth part: regions whole, tests, and what is reckoned by rewriting. -/
import Derived.Test.YtaolgdpkcbfocaaDoorAmRow
namespace Go.Proofs.YtaolgdpkcbfocaaDoorA
set_option autoImplicit false
set_option linter.unusedVariables false

def srcKind (Γ : Nat → Option Row) (tx : Nat) (y : TV) : Bool :=
  match cv1 y with
  | some (.string _) => isStrT Γ tx
  | _ => (elemT Γ tx).isSome
def litC (v : Value) : CV := .t (.v v)
/-- A value that may be told. What follows is held back until it is. -/
def optCase {α : Type} (x : Option α) (f : α → Prop) (d : Unit → Prop) : Prop :=
  match x with
  | some a => f a
  | none => d ()
@[go_sem] theorem optCase_some {α : Type} {a : α} {f : α → Prop} {d : Unit → Prop} : optCase (some a) f d = f a := rfl
@[go_sem] theorem optCase_none {α : Type} {f : α → Prop} {d : Unit → Prop} : optCase (none : Option α) f d = d () := rfl
def fls (_ : Unit) : Prop := False
def storePrep (Γ : Nat → Option Row) (st : St) (t : Nat) (x y : Operand) : Option (Nat × List CV) :=
  match Γ t, st.eval x, tvCells (st.eval y) with
  | some r, .c (.ptr id off), some cs => match st.obj id with
    | some (.cells xs) => if cs.length = r.size ∧ off + cs.length ≤ xs.length then some (id, splice xs off cs) else none
    | _ => none
  | _, _, _ => none
def rowsPrep (Γ : Nat → Option Row) (st : St) (t len : Nat) (parts : List (Nat × Operand)) : Option (Nat × Row × List (List Tree)) :=
  match elemT Γ t with
  | some (e, r) => match rowsFrom r.size 0 (evMap st.eval parts) with
    | some xs => if parts.length = len ∧ len * r.size ≤ 16777216 ∧ 0 < r.size then some (e, r, xs) else none
    | none => none
  | none => none
/-- What is known of functions: name and arguments told, the answer told. -/
structure Kn where
  call : FuncId → List TV → Option TV
  eqs : Eqs
  callB : FuncId → List TV → List (Nat × AObj) → Option (TV × List (Nat × AObj) × Nat) := fun _ _ _ => none
structure KnOk (P : Program) (kn : Kn) : Prop where
  call : ∀ f args res, kn.call f args = some res → TC P f args [] 1 res [] 1
  eqs : EqsOk P kn.eqs
  callB : ∀ f args objs0 res objs1 n1, kn.callB f args objs0 = some (res, objs1, n1) → TC P f args objs0 (objs0.length + 1) res objs1 n1
def plainCV : CV → Bool
  | .t _ | .junk | .rp _ | .irp _ _ => true
  | _ => false
def plainTV1 : TV → Bool
  | .c x => plainCV x
  | .agg xs => xs.all plainCV
  | .tup _ => false
def plainTV : TV → Bool
  | .c x => plainCV x
  | .agg xs => xs.all plainCV
  | .tup xs => xs.all plainTV1
def litCV : CV → Bool
  | .t (.v _) | .junk => true
  | _ => false
def litTV1 : TV → Bool
  | .c x => litCV x
  | .agg xs => xs.all litCV
  | .tup _ => false
def litTV : TV → Bool
  | .c x => litCV x
  | .agg xs => xs.all litCV
  | .tup xs => xs.all litTV1
def guardO (b : Bool) (r : TV) : Option TV := if b = true then some r else none
def convArgs (m : Bool) (st : St) (ρ : List Nat) : List Operand → Option (List TV)
  | [] => some []
  | x :: l => match convTV m st ρ (st.eval x) with
    | some y => (convArgs m st ρ l).map (y :: ·)
    | none => none
def consO (y : Option TV) (l : Option (List TV)) : Option (List TV) := y.bind fun y => l.map (y :: ·)
def optOr {α : Type} (x : Option α) (d : Unit → Option α) : Option α :=
  match x with
  | some a => some a
  | none => d ()
@[go_sem] theorem optOr_some {α : Type} {a : α} {d : Unit → Option α} : optOr (some a) d = some a := rfl
@[go_sem] theorem optOr_none {α : Type} {d : Unit → Option α} : optOr (none : Option α) d = d () := rfl
def callP (r : TV) : Option TV := guardO (plainTV r) r
def callL (r : TV) : Option TV := guardO (litTV r) r
def callK (kn : Kn) (f : FuncId) (args : List TV) : Option TV := (kn.call f args).bind callP
def callF (kn : Kn) (f : FuncId) (args : List TV) : Option TV := (kn.call f args).bind callL
def callM (kn : Kn) (st : St) (xs : List Operand) (f : FuncId) (_ : Unit) : Option TV := (convArgs true st [] xs).bind (callF kn f)
def callVal (kn : Kn) (st : St) (c : Call) : Option TV :=
  match c.callee with
  | .value (.func f) => optOr ((convArgs false st [] c.args.toList).bind (callK kn f)) (callM kn st c.args.toList f)
  | _ => none
/-! Calls that are handed blocks. -/
def idsC : CV → List Nat
  | .ptr id _ => [id]
  | .ifp _ id _ => [id]
  | .own id _ _ => [id]
  | _ => []
def cvIds : List CV → List Nat
  | [] => []
  | x :: l => idsC x ++ cvIds l
def tvIds : TV → List Nat
  | .c x => idsC x
  | .agg xs => cvIds xs
  | .tup _ => []
def argIds (st : St) : List Operand → List Nat
  | [] => []
  | x :: l => tvIds (st.eval x) ++ argIds st l
def obIds : Option AObj → List Nat
  | some (.cells xs) => cvIds xs
  | _ => []
def hasId (j : Nat) : List Nat → Bool
  | [] => false
  | i :: l => if j = i then true else hasId j l
def reach (st : St) : Nat → List Nat → List Nat → List Nat
  | 0, _, acc => acc
  | _ + 1, [], acc => acc
  | n + 1, j :: l, acc => if hasId j acc = true then reach st n l acc else reach st n (obIds (st.obj j) ++ l) (acc ++ [j])
def consB (k : Nat) : Option AObj → Option (List (Nat × AObj)) → Option (List (Nat × AObj))
  | some x, some l => some ((k, x) :: l)
  | _, _ => none
def mkObjs (st : St) (ρ : List Nat) : Nat → List Nat → Option (List (Nat × AObj))
  | _, [] => some []
  | k, j :: l => consB k ((st.obj j).bind (convObj false st ρ)) (mkObjs st ρ (k + 1) l)
abbrev BRes := List Nat × TV × List (Nat × AObj) × Nat
def cb3 (ρ : List Nat) (p : TV × List (Nat × AObj) × Nat) : Option BRes := if (nodupB ρ && uniq p.2.1) = true then some (ρ, p) else none
def cb2 (kn : Kn) (f : FuncId) (ρ : List Nat) (args : List TV) (objs0 : List (Nat × AObj)) : Option BRes := (kn.callB f args objs0).bind (cb3 ρ)
def cb1 (kn : Kn) (st : St) (f : FuncId) (ρ : List Nat) (args : List TV) : Option BRes := (mkObjs st ρ 1 ρ).bind (cb2 kn f ρ args)
def cb0 (kn : Kn) (st : St) (f : FuncId) (xs : List Operand) (ρ : List Nat) : Option BRes := (convArgs false st ρ xs).bind (cb1 kn st f ρ)
def callBV (kn : Kn) (st : St) (c : Call) : Option BRes :=
  match c.callee with
  | .value (.func f) => cb0 kn st f c.args.toList (reach st 16 (argIds st c.args.toList) [])
  | _ => none
/-! Calls that read the rows they are handed and answer with new ones. -/
def isV : Tree → Bool
  | .v _ => true
  | _ => false
def flatRow : List Tree → Bool
  | [] => true
  | x :: l => isV x && flatRow l
def flatRows : List (List Tree) → Bool
  | [] => true
  | x :: l => flatRow x && flatRows l
theorem flatRow_ok : ∀ {l : List Tree}, flatRow l = true → ∀ t, t ∈ l → ∃ v, t = .v v
  | x :: l, h, t, ht => by
    simp only [flatRow, Bool.and_eq_true] at h
    rcases List.mem_cons.1 ht with rfl | ht
    · cases t with
      | v v => exact ⟨v, rfl⟩
      | sl _ _ => cases h.1
    · exact flatRow_ok h.2 t ht
theorem flatRows_ok : ∀ {l : List (List Tree)}, flatRows l = true → ∀ x, x ∈ l → ∀ t, t ∈ x → ∃ v, t = .v v
  | x :: l, h, y, hy, t, ht => by
    simp only [flatRows, Bool.and_eq_true] at h
    rcases List.mem_cons.1 hy with rfl | hy
    · exact flatRow_ok h.1 t ht
    · exact flatRows_ok h.2 y hy t ht
theorem flatRows_map {α : Type} {f : α → List Tree} (hf : ∀ a, flatRow (f a) = true) : ∀ l : List α, flatRows (l.map f) = true
  | [] => rfl
  | a :: l => by simp only [List.map_cons, flatRows, hf, flatRows_map hf l, Bool.and_self]
def flatCB : CV → Bool
  | .t (.v _) | .own _ _ _ | .ptr _ _ | .ifp _ _ _ | .ep _ _ _ | .junk => true
  | _ => false
theorem flatCB_ok {x : CV} (h : flatCB x = true) : flatCV x := by
  cases x with
  | t t => cases t with
    | v v => exact trivial
    | sl a b => cases h
  | rp _ => cases h
  | irp _ _ => cases h
  | _ => exact trivial
def flatTB1 : TV → Bool
  | .c x => flatCB x
  | .agg xs => xs.all flatCB
  | .tup _ => false
def flatTB : TV → Bool
  | .c x => flatCB x
  | .agg xs => xs.all flatCB
  | .tup xs => xs.all flatTB1
theorem flatAll_ok {xs : List CV} (h : xs.all flatCB = true) : ∀ x, x ∈ xs → flatCV x := fun x hx => flatCB_ok (List.all_eq_true.1 h x hx)
theorem flatTB_ok {r : TV} (h : flatTB r = true) : flatTV r := by
  cases r with
  | c x => exact flatCB_ok h
  | agg xs => exact flatAll_ok h
  | tup xs =>
    intro y hy
    have := List.all_eq_true.1 h y hy
    cases y with
    | c x => exact flatCB_ok this
    | agg xs => exact flatAll_ok this
    | tup _ => cases this
def flatOB : AObj → Bool
  | .cells xs => xs.all flatCB
  | .arr _ _ xs => flatRows xs
def flatOsB : List (Nat × AObj) → Bool
  | [] => true
  | p :: l => flatOB p.2 && flatOsB l
theorem flatOsB_ok : ∀ {l : List (Nat × AObj)}, flatOsB l = true → ∀ p, p ∈ l → flatObj p.2
  | p :: l, h, q, hq => by
    simp only [flatOsB, Bool.and_eq_true] at h
    rcases List.mem_cons.1 hq with rfl | hq
    · have h1 := h.1
      obtain ⟨i, o⟩ := q
      cases o with
      | cells xs => exact flatAll_ok h1
      | arr _ _ xs => exact flatRows_ok h1
    · exact flatOsB_ok h.2 q hq
def cr1 (p : TV × List (Nat × AObj) × Nat) : Option BRes := if (flatTB p.1 && flatOsB p.2.1 && uniq p.2.1) = true then some ([], p) else none
def cr0 (kn : Kn) (f : FuncId) (args : List TV) : Option BRes := (kn.callB f args []).bind cr1
def callRV (kn : Kn) (st : St) (c : Call) : Option BRes :=
  match c.callee with
  | .value (.func f) => (convArgs true st [] c.args.toList).bind (cr0 kn f)
  | _ => none
/-! Calls by a method's name. -/
def convTVs (m : Bool) (st : St) (ρ : List Nat) : List TV → Option (List TV)
  | [] => some []
  | x :: l => match convTV m st ρ x with
    | some y => (convTVs m st ρ l).map (y :: ·)
    | none => none
def tvsIds : List TV → List Nat
  | [] => []
  | x :: l => tvIds x ++ tvsIds l
def evs (st : St) : List Operand → List TV
  | [] => []
  | x :: l => st.eval x :: evs st l
def ci1 (kn : Kn) (st : St) (f : FuncId) (tvs : List TV) (ρ : List Nat) : Option BRes := (convTVs false st ρ tvs).bind (cb1 kn st f ρ)
def ci0 (kn : Kn) (st : St) (tvs : List TV) (f : FuncId) : Option BRes := ci1 kn st f tvs (reach st 16 (tvsIds tvs) [])
def callIV (kn : Kn) (st : St) (c : Call) : Option BRes :=
  match c.callee with
  | .invoke recv name => match st.eval recv with
    | .c (.ifp ty id off) => (kn.eqs.mth ty name).bind (ci0 kn st (.c (.ptr id off) :: evs st c.args.toList))
    | .c (.irp ty xs) => (kn.eqs.mth ty name).bind (ci0 kn st (.c (.rp xs) :: evs st c.args.toList))
    | _ => none
  | _ => none
def backObjs (ρ : List Nat) (n0 nx : Nat) (l : List (Nat × AObj)) : List (Nat × AObj) := l.map fun p => (bwd ρ n0 nx p.1, renObj (bwdO ρ n0 nx) p.2)
@[go_sem] theorem backObjs_nil {ρ : List Nat} {n0 nx : Nat} : backObjs ρ n0 nx [] = [] := rfl
@[go_sem] theorem backObjs_cons {ρ : List Nat} {n0 nx : Nat} {p : Nat × AObj} {l : List (Nat × AObj)} : backObjs ρ n0 nx (p :: l) = (bwd ρ n0 nx p.1, renObj (bwdO ρ n0 nx) p.2) :: backObjs ρ n0 nx l := rfl
@[go_sem] theorem st_back {st : St} {ρ : List Nat} {objs1 : List (Nat × AObj)} {n0 n1 : Nat} : st.back ρ objs1 n0 n1 = ⟨st.tmps, backObjs ρ n0 st.next objs1 ++ delAll ρ st.objs, st.next + (n1 - n0)⟩ := rfl
def kBack (K : St → Prop) (st : St) (d : Option Tmp) (p : BRes) : Prop := K ((st.back p.1 p.2.2.1 (p.1.length + 1) p.2.2.2).put d (renTV (bwdO p.1 (p.1.length + 1) st.next) p.2.1))
def appPrep (Γ : Nat → Option Row) (st : St) (c : Call) : Option (Nat × Row × Option Nat × List (List Tree) × List (List Tree)) :=
  match c.callee, c.args.toList, c.argTypes.toList with
  | .builtin .append, [x, y], [t, tx] => match elemT Γ t with
    | some (e, r) => match dstOf st e r.size (st.eval x), srcOf st r.size (st.eval y) with
      | some (old, xs), some ys => if srcKind Γ tx (st.eval y) = true then some (e, r, old, xs, ys) else none
      | _, _ => none
    | none => none
  | _, _, _ => none
def kPut (K : St → Prop) (st : St) (d : Option Tmp) (X : TV) : Prop := K (st.put d X)
def kBox (K : St → Prop) (st : St) (d : Option Tmp) (cs : List CV) : Prop := K ((st.new (.cells cs)).put d (.c (.ptr st.next 0)))
def kAlloc (K : St → Prop) (st : St) (d : Option Tmp) (r : Row) : Prop := K ((st.new (.cells (r.zero.map fun v => .t (.v v)))).put d (.c (.ptr st.next 0)))
def kStore (K : St → Prop) (st : St) (d : Option Tmp) (p : Nat × List CV) : Prop := K ((st.setObj p.1 (.cells p.2)).put d (.c .junk))
def kRows (K : St → Prop) (st : St) (d : Option Tmp) (len : Nat) (p : Nat × Row × List (List Tree)) : Prop := K ((st.new (.arr p.1 p.2.1.size p.2.2)).put d (.c (.own st.next 0 len)))
def kApp (K : St → Prop) (st : St) (d : Option Tmp) (p : Nat × Row × Option Nat × List (List Tree) × List (List Tree)) : Prop :=
  (p.2.2.2.1.length + p.2.2.2.2.length) * p.2.1.bytes ≤ 140737488355328 ∧ p.2.2.2.1.length + p.2.2.2.2.length ≤ maxLen ∧
      K (((st.delOpt p.2.2.1).new (.arr p.1 p.2.1.size (p.2.2.2.1 ++ p.2.2.2.2))).put d (.c (.own st.next 0 (p.2.2.2.1.length + p.2.2.2.2.length))))
def kAm (P : Program) (C : Ctx) (Q : Exit → St → Prop) (o : Oper) (K : St → Prop) (st : St) (_ : Unit) : Prop := amOp P C o Q K st
def kCallV (P : Program) (kn : Kn) (C : Ctx) (Q : Exit → St → Prop) (o : Oper) (K : St → Prop) (st : St) (c : Call) (_ : Unit) : Prop := optCase (callIV kn st c) (kBack K st o.dst) (kAm P C Q o K st)
def kCallR (P : Program) (kn : Kn) (C : Ctx) (Q : Exit → St → Prop) (o : Oper) (K : St → Prop) (st : St) (c : Call) (_ : Unit) : Prop := optCase (callRV kn st c) (kBack K st o.dst) (kCallV P kn C Q o K st c)
def kCallB (P : Program) (kn : Kn) (C : Ctx) (Q : Exit → St → Prop) (o : Oper) (K : St → Prop) (st : St) (c : Call) (_ : Unit) : Prop := optCase (callBV kn st c) (kBack K st o.dst) (kCallR P kn C Q o K st c)
def kCall (P : Program) (kn : Kn) (C : Ctx) (Q : Exit → St → Prop) (o : Oper) (K : St → Prop) (st : St) (c : Call) (_ : Unit) : Prop := optCase (callVal kn st c) (kPut K st o.dst) (kCallB P kn C Q o K st c)
def epSet (r : Row) (id ty sz : Nat) (xs : List (List Tree)) (i j : Nat) (ts : List Tree) : Option (List Tree) → Option (Nat × Nat × Nat × List (List Tree))
  | some row => if ts.length = r.size ∧ j + ts.length ≤ row.length then some (id, ty, sz, xs.set i (splice row j ts)) else none
  | none => none
def epPrep (Γ : Nat → Option Row) (st : St) (t : Nat) (x y : Operand) : Option (Nat × Nat × Nat × List (List Tree)) :=
  match Γ t, st.eval x, (tvCells (st.eval y)).bind cvTrees with
  | some r, .c (.ep id i j), some ts => match st.obj id with
    | some (.arr ty sz xs) => epSet r id ty sz xs i j ts xs[i]?
    | _ => none
  | _, _, _ => none
def kStoreR (K : St → Prop) (st : St) (d : Option Tmp) (p : Nat × Nat × Nat × List (List Tree)) : Prop := K ((st.setObj p.1 (.arr p.2.1 p.2.2.1 p.2.2.2)).put d (.c .junk))
def kStoreE (P : Program) (Γ : Nat → Option Row) (C : Ctx) (Q : Exit → St → Prop) (o : Oper) (K : St → Prop) (st : St) (t : Nat) (x y : Operand) (_ : Unit) : Prop := optCase (epPrep Γ st t x y) (kStoreR K st o.dst) (kAm P C Q o K st)
def makePrep (Γ : Nat → Option Row) (st : St) (t : Nat) (x y : Operand) : Option (Nat × Row × Int) :=
  match elemT Γ t, st.eval x, st.eval y with
  | some (e, r), .c (.t (.v (.int .i64 n))), .c (.t (.v (.int .i64 m))) => if n = m then some (e, r, n) else none
  | _, _, _ => none
def kMake (K : St → Prop) (st : St) (d : Option Tmp) (p : Nat × Row × Int) : Prop :=
  0 ≤ p.2.2 ∧ (p.2.1.bytes * p.2.2.toNat ≤ 281474976710656 ∧ p.2.2.toNat ≤ maxLen) ∧ K ((st.new (.arr p.1 p.2.1.size (List.replicate p.2.2.toNat (p.2.1.zero.map .v)))).put d (.c (.own st.next 0 p.2.2.toNat)))
/-- An operation that makes or writes. -/
def heavyOp (P : Program) (Γ : Nat → Option Row) (kn : Kn) (C : Ctx) (Q : Exit → St → Prop) (o : Oper) (K : St → Prop) (st : St) (_ : Unit) : Prop :=
  match o.op with
  | .box _ x => optCase (tvCells (st.eval x)) (kBox K st o.dst) fls
  | .alloc t => optCase (Γ t) (kAlloc K st o.dst) fls
  | .store t x y => optCase (storePrep Γ st t x y) (kStore K st o.dst) (kStoreE P Γ C Q o K st t x y)
  | .makeSlice t x y => optCase (makePrep Γ st t x y) (kMake K st o.dst) (kAm P C Q o K st)
  | .buildSlice t len parts => optCase (rowsPrep Γ st t len parts.toList) (kRows K st o.dst len) (kAm P C Q o K st)
  | .binOp op ty x y _ => optCase (eqVal Γ kn.eqs.tys op ty (st.eval x) (st.eval y)) (kPut K st o.dst) (kAm P C Q o K st)
  | .makeInterface t x => optCase (ifpPrep kn.eqs t (st.eval x)) (kPut K st o.dst) (kAm P C Q o K st)
  | .typeAssert x _ t ok => optCase (assertPrep kn.eqs t ok (st.eval x)) (kPut K st o.dst) (kAm P C Q o K st)
  | .call c => optCase (appPrep Γ st c) (kApp K st o.dst) (kCall P kn C Q o K st c)
  | _ => amOp P C o Q K st
def runOp (P : Program) (Γ : Nat → Option Row) (kn : Kn) (C : Ctx) (Q : Exit → St → Prop) (o : Oper) (K : St → Prop) (st : St) : Prop :=
  optCase (pureVal Γ st.eval st.obj o.op) (kPut K st o.dst) (heavyOp P Γ kn C Q o K st)
def dstAt : List Oper → Nat → Option Nat
  | [], _ => none
  | o :: _, 0 => o.dst
  | _ :: l, n + 1 => dstAt l n
theorem dstAt_eq : ∀ (l : List Oper) (j : Nat), dstAt l j = (l[j]?).bind (·.dst)
  | [], _ => by simp [dstAt]
  | o :: l, 0 => by simp [dstAt]
  | o :: l, n + 1 => by simp [dstAt, dstAt_eq l n]
/-- Two ways, by a test. -/
def guardP (b want : Bool) (X Y : Unit → Prop) : Prop := (b = want → X ()) ∧ (b = !want → Y ())
theorem guardP_mk {b want : Bool} {X Y : Unit → Prop} (h1 : b = want → X ()) (h2 : b = !want → Y ()) : guardP b want X Y := ⟨h1, h2⟩
@[go_sem] theorem guardP_tt {X Y : Unit → Prop} : guardP true true X Y = X () := by simp [guardP]
@[go_sem] theorem guardP_ff {X Y : Unit → Prop} : guardP false false X Y = X () := by simp [guardP]
@[go_sem] theorem guardP_tf {X Y : Unit → Prop} : guardP true false X Y = Y () := by simp [guardP]
@[go_sem] theorem guardP_ft {X Y : Unit → Prop} : guardP false true X Y = Y () := by simp [guardP]
def boolAt (d : Nat) (st : St) : Option Bool :=
  match look d st.tmps with
  | some (.c (.t (.v (.bool b)))) => some b
  | _ => none
theorem boolAt_ok {d : Nat} {st : St} {b : Bool} (h : boolAt d st = some b) : look d st.tmps = some (.c (.t (.v (.bool b)))) := by
  unfold boolAt at h
  split at h
  · rename_i b' hb; cases h; exact hb
  · cases h
def gRun (P : Program) (Γ : Nat → Option Row) (kn : Kn) (C : Ctx) (Q : Exit → St → Prop) (o : Oper) (K : St → Prop) (st : St) (_ : Unit) : Prop := runOp P Γ kn C Q o K st
def gSkip (o : Oper) (K : St → Prop) (st : St) (_ : Unit) : Prop := K (st.put o.dst (.tup []))
def kGuard (P : Program) (Γ : Nat → Option Row) (kn : Kn) (C : Ctx) (Q : Exit → St → Prop) (o : Oper) (K : St → Prop) (st : St) (d : Tmp) (want : Bool) (b : Bool) : Prop :=
  guardP b want (gRun P Γ kn C Q o K (st.put (some d) (lit (.bool want)))) (gSkip o K (st.put (some d) (lit (.bool (!want)))))
def kNone (o : Oper) (K : St → Prop) (st : St) (d : Tmp) (_ : Unit) : Prop := look d st.tmps = some (.tup []) ∧ K (st.put o.dst (.tup []))
def runOps (P : Program) (Γ : Nat → Option Row) (kn : Kn) (C : Ctx) (Q : Exit → St → Prop) (ops : Array Oper) : List Oper → (St → Prop) → St → Prop
  | [], K, st => K st
  | o :: l, K, st => match o.guard with
    | none => runOp P Γ kn C Q o (runOps P Γ kn C Q ops l K) st
    | some (j, want) => match dstAt ops.toList j with
      | some d => optCase (boolAt d st) (kGuard P Γ kn C Q o (runOps P Γ kn C Q ops l K) st d want) (kNone o (runOps P Γ kn C Q ops l K) st d)
      | none => False

section
variable {P : Program} {Γ : Nat → Option Row} {kn : Kn} {C : Ctx} {Q : Exit → St → Prop} {st : St} {o : Oper} {K : St → Prop} {ops : Array Oper} {E : Env}
theorem optCase_elim {α : Type} {x : Option α} {f : α → Prop} {d : Unit → Prop} {G : Prop} (h : optCase x f d) (h1 : ∀ a, x = some a → f a → G) (h2 : x = none → d () → G) : G := by
  cases x with
  | some a => exact h1 a rfl h
  | none => exact h2 rfl h
theorem storePrep_ok {t : Nat} {x y : Operand} {p : Nat × List CV} (h : storePrep Γ st t x y = some p) : ∃ r off xs cs, Γ t = some r ∧ st.eval x = .c (.ptr p.1 off) ∧ st.obj p.1 = some (.cells xs) ∧ tvCells (st.eval y) = some cs ∧ cs.length = r.size ∧ off + cs.length ≤ xs.length ∧ p.2 = splice xs off cs := by
  unfold storePrep at h
  split at h
  · rename_i r id off cs hr hx hc
    split at h
    · rename_i xs hob
      split at h
      · rename_i hl; cases h; exact ⟨r, off, xs, cs, hr, hx, hob, hc, hl.1, hl.2, rfl⟩
      · cases h
    · cases h
  · cases h
theorem rowsPrep_ok {t len : Nat} {parts : List (Nat × Operand)} {p : Nat × Row × List (List Tree)} (h : rowsPrep Γ st t len parts = some p) : elemT Γ t = some (p.1, p.2.1) ∧ rowsFrom p.2.1.size 0 (parts.map fun p => (p.1, st.eval p.2)) = some p.2.2 ∧ parts.length = len ∧ len * p.2.1.size ≤ 16777216 ∧ 0 < p.2.1.size := by
  unfold rowsPrep at h
  split at h
  · rename_i e r he
    split at h
    · rename_i xs hx
      split at h
      · rename_i hc; cases h; exact ⟨he, hx, hc⟩
      · cases h
    · cases h
  · cases h
theorem guardO_some {b : Bool} {r y : TV} (h : guardO b r = some y) : b = true ∧ y = r := by
  unfold guardO at h
  split at h
  · rename_i hb; cases h; exact ⟨hb, rfl⟩
  · cases h
theorem plain_ren {r : TV} (h : plainTV r = true) (ρ : Nat → Option Nat) : renTV ρ r = r := by
  have h1 : ∀ x : CV, plainCV x = true → renCV ρ x = x := fun x hx => by cases x <;> simp_all [plainCV, renCV]
  have h2 : ∀ xs : List CV, xs.all plainCV = true → xs.map (renCV ρ) = xs := fun xs hx => by
    induction xs with
    | nil => rfl
    | cons x xs ih => simp only [List.all_cons, Bool.and_eq_true] at hx; simp [h1 x hx.1, ih hx.2]
  have h3 : ∀ y : TV, plainTV1 y = true → renTV1 ρ y = y := fun y hy => by
    cases y with
    | c x => simp only [renTV1]; rw [h1 x hy]
    | agg xs => simp only [renTV1]; rw [h2 xs hy]
    | tup _ => cases hy
  cases r with
  | c x => exact h3 (.c x) h
  | agg xs => exact h3 (.agg xs) h
  | tup xs =>
    simp only [renTV]
    congr 1
    induction xs with
    | nil => rfl
    | cons x xs ih =>
      simp only [plainTV, List.all_cons, Bool.and_eq_true] at h
      simp [h3 x h.1, ih (by simpa [plainTV] using h.2)]
theorem lit_flat {r : TV} (h : litTV r = true) : flatTV r ∧ plainTV r = true := by
  have h1 : ∀ x : CV, litCV x = true → flatCV x ∧ plainCV x = true := fun x hx => by
    cases x with
    | t t => cases t with
      | v v => exact ⟨trivial, rfl⟩
      | sl a b => cases hx
    | _ => first | exact ⟨trivial, rfl⟩ | (cases hx)
  have h2 : ∀ xs : List CV, xs.all litCV = true → (∀ x, x ∈ xs → flatCV x) ∧ xs.all plainCV = true := fun xs hx => by
    rw [List.all_eq_true] at hx
    exact ⟨fun x h => (h1 x (hx x h)).1, by rw [List.all_eq_true]; exact fun x h => (h1 x (hx x h)).2⟩
  cases r with
  | c x => exact h1 x h
  | agg xs => exact h2 xs h
  | tup xs =>
    simp only [litTV, List.all_eq_true] at h
    refine ⟨fun y hy => ?_, by
      simp only [plainTV, List.all_eq_true]
      intro y hy
      have := h y hy
      cases y with
      | c x => exact (h1 x this).2
      | agg xs => exact (h2 xs this).2
      | tup _ => cases this⟩
    have := h y hy
    cases y with
    | c x => exact (h1 x this).1
    | agg xs => exact (h2 xs this).1
    | tup _ => cases this
theorem convArgs_eq {m : Bool} {ρ : List Nat} : ∀ {l : List Operand} {args : List TV}, convArgs m st ρ l = some args → allSome (l.map fun x => convTV m st ρ (st.eval x)) = some args
  | [], args, h => by cases h; rfl
  | x :: l, args, h => by
    simp only [convArgs] at h
    split at h
    · rename_i y hy
      cases hl : convArgs m st ρ l with
      | none => rw [hl] at h; cases h
      | some ys => rw [hl] at h; cases h; simp [hy, allSome, convArgs_eq hl]
    · cases h
theorem callVal_ok (hkn : KnOk P kn) (hd : dstOk C.n o = true) {c : Call} (ho : o.op = .call c) {X : TV} (h : callVal kn st c = some X) (hK : K (st.put o.dst X)) : amOp P C o Q K st := by
  unfold callVal at h
  split at h
  · rename_i f hf
    obtain ⟨ce, as, ts⟩ := c
    simp only at hf
    subst hf
    unfold optOr at h
    split at h
    · rename_i a ha
      cases h
      obtain ⟨args, h1, h2⟩ := Option.bind_eq_some_iff.1 ha
      obtain ⟨r, h3, h4⟩ := Option.bind_eq_some_iff.1 h2
      obtain ⟨h5, rfl⟩ := guardO_some h4
      exact amOp_q hd false ho (hkn.call _ _ _ h3) (convArgs_eq h1) (fun h => by cases h) (plain_ren h5) hK
    · obtain ⟨args, h1, h2⟩ := Option.bind_eq_some_iff.1 h
      obtain ⟨r, h3, h4⟩ := Option.bind_eq_some_iff.1 h2
      obtain ⟨h5, rfl⟩ := guardO_some h4
      exact amOp_q hd true ho (hkn.call _ _ _ h3) (convArgs_eq h1) (fun _ => (lit_flat h5).1) (plain_ren (lit_flat h5).2) hK
  · cases h
theorem mkObjs_ok {ρ : List Nat} : ∀ {l : List Nat} {k : Nat} {os : List (Nat × AObj)}, mkObjs st ρ k l = some os → os.length = l.length ∧ (∀ j, j ∈ l → (st.obj j).isSome = true) ∧ (∀ q, k ≤ q → q < k + l.length → (look q os).isSome = true) ∧
    ∀ q x, look q os = some x → k ≤ q ∧ ∃ j y, l[q - k]? = some j ∧ st.obj j = some y ∧ convObj false st ρ y = some x
  | [], k, os, h => by
    cases h
    exact ⟨rfl, (fun j hj => by cases hj), (fun q h1 h2 => by simp at h2; omega), fun q x hx => by cases hx⟩
  | j :: l, k, os, h => by
    simp only [mkObjs] at h
    unfold consB at h
    split at h
    · rename_i x os' hx hos
      cases h
      obtain ⟨y, h1, h2⟩ := Option.bind_eq_some_iff.1 hx
      obtain ⟨h3, h4, h5, h6⟩ := mkObjs_ok hos
      refine ⟨by simp [h3], fun i hi => ?_, fun q hq1 hq2 => ?_, fun q z hz => ?_⟩
      · rcases List.mem_cons.1 hi with e | hi
        · subst e; rw [h1]; rfl
        · exact h4 i hi
      · simp only [look]
        split
        · rfl
        · rename_i hne
          exact h5 q (by omega) (by simp only [List.length_cons] at hq2; omega)
      · simp only [look] at hz
        split at hz
        · rename_i e; subst e; cases hz; exact ⟨Nat.le_refl _, j, y, by simp, h1, h2⟩
        · obtain ⟨h7, j', y', h8, h9, h10⟩ := h6 q z hz
          refine ⟨by omega, j', y', ?_, h9, h10⟩
          rw [show q - k = (q - (k + 1)) + 1 by omega]
          simpa using h8
    · cases h
theorem callBV_ok (hkn : KnOk P kn) (hd : dstOk C.n o = true) {c : Call} (ho : o.op = .call c) {p : BRes} (h : callBV kn st c = some p) (hK : kBack K st o.dst p) : amOp P C o Q K st := by
  unfold callBV at h
  split at h
  · rename_i f hf
    obtain ⟨ce, as, ts⟩ := c
    simp only at hf
    subst hf
    obtain ⟨args, h1, h2⟩ := Option.bind_eq_some_iff.1 h
    obtain ⟨objs0, h3, h4⟩ := Option.bind_eq_some_iff.1 h2
    obtain ⟨⟨res, objs1, n1⟩, h5, h6⟩ := Option.bind_eq_some_iff.1 h4
    unfold cb3 at h6
    split at h6
    · rename_i hb
      simp only [Bool.and_eq_true] at hb
      cases h6
      obtain ⟨g1, g2, g3, g4⟩ := mkObjs_ok h3
      have htc := hkn.callB _ _ _ _ _ _ h5
      rw [g1] at htc
      refine amOp_call hd false _ ho htc (convArgs_eq h1) rfl hb.1 g2 (fun k x hx => ?_) (fun k hk1 hk2 => g3 k hk1 (by omega)) hb.2 (fun h => by cases h) hK
      obtain ⟨q1, j, y, q2, q3, q4⟩ := g4 k x hx
      refine ⟨j, y, ?_, q3, q4⟩
      unfold fwd
      rw [nodup_ok hb.1 _ _ q2]
      simp
      omega
    · cases h6
  · cases h
theorem convTVs_eq {m : Bool} {ρ : List Nat} : ∀ {l : List TV} {r : List TV}, convTVs m st ρ l = some r → allSome (l.map fun x => convTV m st ρ x) = some r
  | [], r, h => by cases h; rfl
  | x :: l, r, h => by
    simp only [convTVs] at h
    split at h
    · rename_i y hy
      cases hl : convTVs m st ρ l with
      | none => rw [hl] at h; cases h
      | some r' =>
        rw [hl] at h
        cases h
        simp [allSome, hy, convTVs_eq hl]
    · cases h
theorem evs_eq : ∀ l : List Operand, evs st l = l.map st.eval
  | [] => rfl
  | x :: l => by rw [evs, evs_eq l]; rfl
theorem callRV_ok (hkn : KnOk P kn) (hd : dstOk C.n o = true) {c : Call} (ho : o.op = .call c) {p : BRes} (h : callRV kn st c = some p) (hK : kBack K st o.dst p) : amOp P C o Q K st := by
  unfold callRV at h
  split at h
  · rename_i f hf
    obtain ⟨ce, as, ts⟩ := c
    simp only at hf
    subst hf
    obtain ⟨args, h1, h2⟩ := Option.bind_eq_some_iff.1 h
    obtain ⟨⟨res, objs1, n1⟩, h5, h6⟩ := Option.bind_eq_some_iff.1 h2
    unfold cr1 at h6
    split at h6
    · rename_i hb
      simp only [Bool.and_eq_true] at hb
      cases h6
      have htc := hkn.callB _ _ _ _ _ _ h5
      exact amOp_call hd true [] ho htc (convArgs_eq h1) rfl rfl (fun j hj => by cases hj) (fun k x hx => by cases hx) (fun k hk1 hk2 => by simp at hk2; omega) hb.2 (fun _ => ⟨flatTB_ok hb.1.1, flatOsB_ok hb.1.2⟩) hK
    · cases h6
  · cases h
theorem callIV_ok (hkn : KnOk P kn) (hd : dstOk C.n o = true) {c : Call} (ho : o.op = .call c) {p : BRes} (h : callIV kn st c = some p) (hK : kBack K st o.dst p) : amOp P C o Q K st := by
  unfold callIV at h
  split at h
  · rename_i recv name hf
    obtain ⟨ce, as, ts⟩ := c
    simp only at hf
    subst hf
    split at h
    · rename_i ty id off hrecv
      obtain ⟨f, hm, h0⟩ := Option.bind_eq_some_iff.1 h
      rw [evs_eq] at h0
      unfold ci0 ci1 at h0
      obtain ⟨args, h1, h2⟩ := Option.bind_eq_some_iff.1 h0
      obtain ⟨objs0, h3, h4⟩ := Option.bind_eq_some_iff.1 h2
      obtain ⟨⟨res, objs1, n1⟩, h5, h6⟩ := Option.bind_eq_some_iff.1 h4
      unfold cb3 at h6
      split at h6
      · rename_i hb
        simp only [Bool.and_eq_true] at hb
        cases h6
        obtain ⟨g1, g2, g3, g4⟩ := mkObjs_ok h3
        have htc := hkn.callB _ _ _ _ _ _ h5
        rw [g1] at htc
        have h1' := convTVs_eq h1
        refine amOp_inv hd _ ho (hkn.eqs.mth _ _ _ hm) hrecv htc h1' rfl hb.1 g2 (fun k x hx => ?_) (fun k hk1 hk2 => g3 k hk1 (by omega)) hb.2 hK
        obtain ⟨q1, j, y, q2, q3, q4⟩ := g4 k x hx
        refine ⟨j, y, ?_, q3, q4⟩
        unfold fwd
        rw [nodup_ok hb.1 _ _ q2]
        simp
        omega
      · cases h6
    · rename_i ty tr hrecv
      obtain ⟨f, hm, h0⟩ := Option.bind_eq_some_iff.1 h
      rw [evs_eq] at h0
      unfold ci0 ci1 at h0
      obtain ⟨args, h1, h2⟩ := Option.bind_eq_some_iff.1 h0
      obtain ⟨objs0, h3, h4⟩ := Option.bind_eq_some_iff.1 h2
      obtain ⟨⟨res, objs1, n1⟩, h5, h6⟩ := Option.bind_eq_some_iff.1 h4
      unfold cb3 at h6
      split at h6
      · rename_i hb
        simp only [Bool.and_eq_true] at hb
        cases h6
        obtain ⟨g1, g2, g3, g4⟩ := mkObjs_ok h3
        have htc := hkn.callB _ _ _ _ _ _ h5
        rw [g1] at htc
        have h1' := convTVs_eq h1
        refine amOp_invR hd _ ho (hkn.eqs.mth _ _ _ hm) hrecv htc h1' rfl hb.1 g2 (fun k x hx => ?_) (fun k hk1 hk2 => g3 k hk1 (by omega)) hb.2 hK
        obtain ⟨q1, j, y, q2, q3, q4⟩ := g4 k x hx
        refine ⟨j, y, ?_, q3, q4⟩
        unfold fwd
        rw [nodup_ok hb.1 _ _ q2]
        simp
        omega
      · cases h6
    · cases h
  · cases h
theorem heavyOp_ok (hΓ : TabOk P Γ) (hkn : KnOk P kn) (hd : dstOk C.n o = true) (h : heavyOp P Γ kn C Q o K st ()) : amOp P C o Q K st := by
  unfold heavyOp at h
  split at h
  · rename_i t x ho
    exact optCase_elim h (fun cs hc h => amOp_box ho hc hd h) fun _ h => h.elim
  · rename_i t ho
    exact optCase_elim h (fun r hr h => amOp_alloc hΓ ho hr hd h) fun _ h => h.elim
  · rename_i t x y ho
    refine optCase_elim h (fun p hp h => ?_) fun _ h => optCase_elim h (fun p hp h => ?_) fun _ h => h
    · obtain ⟨r, off, xs, cs, h1, h2, h3, h4, h5, h6, h7⟩ := storePrep_ok hp
      unfold kStore at h
      rw [h7] at h
      exact amOp_storePtr hΓ ho h1 h2 h3 h4 h5 h6 hd h
    · unfold epPrep at hp
      split at hp
      · rename_i r id i j ts hr hx hts
        split at hp
        · rename_i ty sz xs hob
          unfold epSet at hp
          split at hp
          · rename_i row hrow
            split at hp
            · rename_i hl
              cases hp
              obtain ⟨cs, h1, h2⟩ := Option.bind_eq_some_iff.1 hts
              rw [cvTrees_ok h2] at h1
              exact amOp_storeEp hΓ ho hr hx hob hrow h1 hl.1 hl.2 hd h
            · cases hp
          · cases hp
        · cases hp
      · cases hp
  · rename_i t x y ho
    refine optCase_elim h (fun p hp h => ?_) fun _ h => h
    unfold makePrep at hp
    split at hp
    · rename_i e r n m he hx hy
      split at hp
      · rename_i hnm
        cases hp
        subst hnm
        obtain ⟨h0, ⟨h1, h2⟩, h3⟩ := h
        obtain ⟨h6, h7⟩ := elemT_ok hΓ he
        have hn : n = (n.toNat : Int) := (Int.toNat_of_nonneg h0).symm
        exact amOp_makeSlice hΓ ho h6 h7 (by rw [hx, ← hn]) (by rw [hy, ← hn]) h1 h2 hd h3
      · cases hp
    · cases hp
  · rename_i t len parts ho
    refine optCase_elim h (fun p hp h => ?_) fun _ h => h
    obtain ⟨h1, h2, h3, h4, h5⟩ := rowsPrep_ok hp
    obtain ⟨h6, h7⟩ := elemT_ok hΓ h1
    exact amOp_buildSlice hΓ ho h6 h7 h2 (by simpa using h3) h4 h5 hd h
  · rename_i op ty x y yt ho
    exact optCase_elim h (fun X hX h => eqVal_ok hΓ hkn.eqs.tys ho hX hd h) fun _ h => h
  · rename_i t x ho
    exact optCase_elim h (fun X hX h => ifpPrep_ok hkn.eqs ho hX hd h) fun _ h => h
  · rename_i x xt t ok ho
    exact optCase_elim h (fun X hX h => assertPrep_ok hkn.eqs ho hX hd h) fun _ h => h
  · rename_i c ho
    refine optCase_elim h (fun p hp h => ?_) fun _ h => optCase_elim h (fun X hX h => callVal_ok hkn hd ho hX h) fun _ h => optCase_elim h (fun p hp h => callBV_ok hkn hd ho hp h) fun _ h => optCase_elim h (fun p hp h => callRV_ok hkn hd ho hp h) fun _ h => optCase_elim h (fun p hp h => callIV_ok hkn hd ho hp h) fun _ h => h
    unfold appPrep at hp
    split at hp
    · rename_i x y t tx h1 h2 h3
      have hc : c = { callee := .builtin .append, args := #[x, y], argTypes := #[t, tx] } := by
        cases c
        simp only at h1 h2 h3
        subst h1
        congr 1
        · apply Array.toList_inj.1; rw [h2]
        · apply Array.toList_inj.1; rw [h3]
      subst hc
      split at hp
      · rename_i e r he
        obtain ⟨h4, h5⟩ := elemT_ok hΓ he
        split at hp
        · rename_i old xs ys hx hy
          split at hp
          · rename_i h6
            cases hp
            obtain ⟨h7, h8, h9⟩ := h
            unfold srcKind at h6
            split at h6
            · rename_i s hs
              have hst := isStrT_ok hΓ h6
              exact amOp_append hΓ ho h4 h5 hx hy (.inr hst) (.inl ⟨s, cv1_some hs⟩) (.inr hst) h7 h8 hd h9
            · rename_i hs
              obtain ⟨⟨e', q⟩, he'⟩ := Option.isSome_iff_exists.1 h6
              have hst := (elemT_ok hΓ he').1
              refine amOp_append hΓ ho h4 h5 hx hy (.inl ⟨_, hst⟩) (.inr ⟨_, hst⟩) (.inl fun s hs' => ?_) h7 h8 hd h9
              rw [hs'] at hs
              exact hs s rfl
          · cases hp
        · cases hp
      · cases hp
    · cases hp
  · exact h
theorem runOp_ok (hΓ : TabOk P Γ) (hkn : KnOk P kn) (hd : dstOk C.n o = true) (h : runOp P Γ kn C Q o K st) : amOp P C o Q K st :=
  optCase_elim h (fun X hX h => pureVal_ok hΓ hd hX h) fun _ h => heavyOp_ok hΓ hkn hd h
theorem yielded_ok {j d : Nat} {b : Bool} {a : Act} {w : World} (hr : RelE E C st a w) (hd : (ops[j]?).bind (·.dst) = some d) (h : look d st.tmps = some (.c (.t (.v (.bool b))))) : yielded ops a.tmps j = some b ∧ a.tmps.getD d undef = .bool b := by
  have h1 := ro_v (rtT (hr.tmps d _ h))
  refine ⟨?_, h1⟩
  unfold yielded
  rw [hd]
  rw [Array.getD_eq_getD_getElem?] at h1
  cases hg : a.tmps[d]? with
  | none => rw [hg] at h1; simp [undef] at h1
  | some v => rw [hg] at h1; simp at h1; subst h1; simp [hg]
theorem yielded_none {j d : Nat} {a : Act} {w : World} (hr : RelE E C st a w) (hd : (ops[j]?).bind (·.dst) = some d) (h : look d st.tmps = some (.tup [])) : yielded ops a.tmps j = none := by
  have h1 : RT E w (a.tmps.getD d undef) (.tup []) := hr.tmps d _ h
  obtain ⟨vs, h2, h3⟩ := h1
  unfold yielded
  rw [hd]
  rw [Array.getD_eq_getD_getElem?] at h2
  cases hg : a.tmps[d]? with
  | none => simp [hg]
  | some v => rw [hg] at h2; simp at h2; subst h2; simp [hg]
/-- What a slot is told as may be told otherwise. -/
theorem RelE.retell {a : Act} {w : World} (hr : RelE E C st a w) {d : Nat} {x : TV} (h : RT E w (a.tmps.getD d undef) x) : RelE E C (st.put (some d) x) a w := by
  refine ⟨fun t y hy => ?_, hr.size, hr.defers, hr.objs, hr.next, hr.zero, hr.npos, hr.dom, hr.fc⟩
  simp only [St.put, look_push] at hy
  split at hy
  · rename_i e; subst e; cases hy; exact h
  · exact hr.tmps t y hy
theorem rt_undef {w : World} : RT E w undef (.tup []) := ⟨[], rfl, trivial⟩
theorem runOps_ok (hΓ : TabOk P Γ) (hkn : KnOk P kn) : ∀ (l : List Oper) (st : St), l.all (dstOk C.n) = true → runOps P Γ kn C Q ops l (Q .normal) st → amOps P C ops l Q st
  | [], st, _, h => amOps_nil h
  | o :: l, st, hd, h => by
    simp only [List.all_cons, Bool.and_eq_true] at hd
    simp only [runOps] at h
    split at h
    · rename_i hg
      exact amOps_cons hg (amOp_mono (runOp_ok hΓ hkn hd.1 h) fun st' h' => runOps_ok hΓ hkn l st' hd.2 h')
    · rename_i j want hg
      split at h
      · rename_i d hdst
        rw [dstAt_eq, Array.getElem?_toList] at hdst
        refine optCase_elim h (fun b hb0 h => ?_) fun _ h => ?_
        · have hb := boolAt_ok hb0
          intro a w ⟨E, hr⟩
          obtain ⟨hy, hv⟩ := yielded_ok hr hdst hb
          unfold wpList
          by_cases hbw : b = want
          · rw [if_pos (by simp [Region.wanted, hg, hy, hbw])]
            have hr2 := hr.retell (d := d) (x := lit (.bool want)) (by rw [hv, hbw]; exact RO.v _ rfl)
            exact .inl (runOp_ok hΓ hkn hd.1 (h.1 hbw) a w ⟨E, hr2⟩ _ (amOps_lift fun st' h' => runOps_ok hΓ hkn l st' hd.2 h'))
          · rw [if_neg (by simp [Region.wanted, hg, hy, hbw])]
            have hbn : b = !want := by cases b <;> cases want <;> simp_all
            have h2 := h.2 hbn
            have hr2 := hr.retell (d := d) (x := lit (.bool (!want))) (by rw [hv, hbn]; exact RO.v _ rfl)
            exact runOps_ok hΓ hkn l _ hd.2 h2 _ w ⟨E, hr2.put (x := .tup []) rt_undef (dstOk_lt hd.1)⟩
        · obtain ⟨hb, h⟩ := h
          intro a w ⟨E, hr⟩
          have hy := yielded_none hr hdst hb
          unfold wpList
          rw [if_neg (by simp [Region.wanted, hg, hy])]
          exact runOps_ok hΓ hkn l _ hd.2 h _ w ⟨E, hr.put (x := .tup []) rt_undef (dstOk_lt hd.1)⟩
      · exact h.elim

/-! ### What a proof uses -/
theorem am_reg (hΓ : TabOk P Γ) (hkn : KnOk P kn) {id : Nat} (hd : ops.toList.all (dstOk C.n) = true) (h : ∀ (K : St → Prop) (Q1 : Exit → St → Prop), (∀ st, Q .normal st → K st) → runOps P Γ kn C Q1 ops ops.toList K st) : am P C (.region id ops false) Q st :=
  am_region (runOps_ok hΓ hkn _ _ hd (h _ _ fun _ h => h))
theorem am_rs (hΓ : TabOk P Γ) (hkn : KnOk P kn) {id : Nat} {y : Code} (hd : ops.toList.all (dstOk C.n) = true) (h : ∀ (K : St → Prop) (Q1 : Exit → St → Prop), (∀ st, am P C y Q st → K st) → runOps P Γ kn C Q1 ops ops.toList K st) : am P C (.seq (.region id ops false) y) Q st :=
  am_seq (am_reg hΓ hkn hd fun K Q1 hK => h K Q1 fun st h => hK st h)
def boolTV : TV → Option Bool
  | .c (.t (.v (.bool b))) => some b
  | _ => none
def gCode (P : Program) (C : Ctx) (x : Code) (Q : Exit → St → Prop) (st : St) (_ : Unit) : Prop := am P C x Q st
def kCond (P : Program) (C : Ctx) (x y : Code) (Q : Exit → St → Prop) (st : St) (b : Bool) : Prop := guardP b true (gCode P C x Q st) (gCode P C y Q st)
theorem am_cond {c : Operand} {x y : Code} (h : optCase (boolTV (st.eval c)) (kCond P C x y Q st) fls) : am P C (.cond c x y) Q st := by
  refine optCase_elim h (fun b hb h => ?_) fun _ h => h.elim
  intro a w hr
  obtain ⟨E, hr'⟩ := hr
  have h0 : st.eval c = lit (.bool b) := by
    unfold boolTV at hb
    split at hb
    · rename_i b' h0; cases hb; exact h0
    · cases hb
  have h1 := hr'.lit h0
  exact wp_cond_split h1 (fun ht => h.1 ht a w ⟨E, hr'⟩) (fun hf => h.2 hf a w ⟨E, hr'⟩)
theorem am_ss {x y z : Code} (h : am P C (.seq x y) (thenQ (am P C z Q) Q) st) : am P C (.seq (.seq x y) z) Q st := am_seq h
theorem am_sb {x z : Code} {id : Nat} (h : am P C x (blockQ id (thenQ (am P C z Q) Q)) st) : am P C (.seq (.block id x) z) Q st := am_seq (am_block h)
theorem am_skipk {K : St → Prop} (h : K st) : am P C .skip (thenQ K Q) st := am_skip h
theorem am_sc {c : Operand} {x y z : Code} (h : optCase (boolTV (st.eval c)) (kCond P C x y (thenQ (am P C z Q) Q) st) fls) : am P C (.seq (.cond c x y) z) Q st := am_seq (am_cond h)
theorem am_sl {c z : Code} (n : Nat) (h : amR P C c (thenQ (am P C z Q) Q) n st) : am P C (.seq (.loop c) z) Q st := am_seq (am_loop n h)
theorem am_retP {rs : List Tmp} {res : TV} (hn : C.n0 = 1) (h1 : retTV rs (st.tidy [] rs 1) = res) (hQ : Q .ret = RetQ C rs res [] 1 .ret) : am P C .ret Q st := am_ret (by rw [hQ]; exact ret_plain hn h1)
end
theorem am_retB {P : Program} {C : Ctx} {Q : Exit → St → Prop} {st : St} {rs : List Tmp} {res : TV} {objs1 : List (Nat × AObj)} {n1 : Nat} (ρ : List (Nat × Nat)) (hok : tidyOk C.n0 ρ n1 = true) (h1 : retTV rs (st.tidy ρ rs n1) = res) (h2 : (st.tidy ρ rs n1).objs = objs1) (hQ : Q .ret = RetQ C rs res objs1 n1 .ret) : am P C .ret Q st := am_ret (by rw [hQ]; exact ret_tidy ρ hok h1 h2)
theorem ret_norm {C : Ctx} {st : St} {rs : List Tmp} {res : TV} {objs1 : List (Nat × AObj)} {n1 : Nat} (ρ : List (Nat × Nat)) (hok : tidyOk C.n0 ρ n1 = true) (h1 : retTV rs (st.tidy ρ rs n1) = res) (h2 : (st.tidy ρ rs n1).objs = objs1) : RetQ C rs res objs1 n1 .normal st :=
  ⟨.inr rfl, _, fun a w hr => hr.tidy hok, h1, fun id x hx => by rw [← h2] at hx; exact hx, rfl⟩
theorem lit_eq (v : Value) : lit v = .c (.t (.v v)) := rfl
def tidyTs (ρ : List (Nat × Nat)) (st : St) : List Nat → List (Nat × TV)
  | [] => []
  | t :: l => (t, renTV (look · ρ) (st.get t)) :: tidyTs ρ st l
def consA (k : Nat) (ρ : List (Nat × Nat)) : Option AObj → List (Nat × AObj) → List (Nat × AObj)
  | some o, l => (k, renObj (look · ρ) o) :: l
  | none, l => l
def tidyOs (ρ : List (Nat × Nat)) (st : St) : List (Nat × Nat) → List (Nat × AObj)
  | [] => []
  | p :: l => consA p.2 ρ (st.obj p.1) (tidyOs ρ st l)
@[go_sem] theorem st_tidy {st : St} {ρ : List (Nat × Nat)} {ts : List Nat} {N : Nat} : st.tidy ρ ts N = ⟨tidyTs ρ st ts, tidyOs ρ st ρ, N⟩ := by
  have h1 : ∀ l : List Nat, (l.map fun t => (t, renTV (look · ρ) (st.get t))) = tidyTs ρ st l := fun l => by induction l with | nil => rfl | cons t l ih => simp [tidyTs, ih]
  have h2 : ∀ l : List (Nat × Nat), (l.filterMap fun p => (st.obj p.1).map fun o => (p.2, renObj (look · ρ) o)) = tidyOs ρ st l := fun l => by
    induction l with
    | nil => rfl
    | cons p l ih => cases h : st.obj p.1 <;> simp [tidyOs, consA, h, ih]
  unfold St.tidy
  rw [h1, h2]
@[go_sem] theorem runOps_nil {P : Program} {Γ : Nat → Option Row} {kn : Kn} {C : Ctx} {Q : Exit → St → Prop} {ops : Array Oper} {K : St → Prop} {st : St} : runOps P Γ kn C Q ops [] K st = K st := rfl
@[go_sem] theorem runOps_cons {P : Program} {Γ : Nat → Option Row} {kn : Kn} {C : Ctx} {Q : Exit → St → Prop} {ops : Array Oper} {o : Oper} {l : List Oper} {K : St → Prop} {st : St} : runOps P Γ kn C Q ops (o :: l) K st = (match o.guard with
    | none => runOp P Γ kn C Q o (runOps P Γ kn C Q ops l K) st
    | some (j, want) => match dstAt ops.toList j with
      | some d => optCase (boolAt d st) (kGuard P Γ kn C Q o (runOps P Γ kn C Q ops l K) st d want) (kNone o (runOps P Γ kn C Q ops l K) st d)
      | none => False) := by
  conv => lhs; unfold runOps
attribute [go_sem] isV flatRow flatRows flatCB flatTB1 flatTB flatOB flatOsB cr1 cr0 callRV kCallR byteRows strTV bytesK pureStr pureConvB epSet epPrep kStoreR kStoreE makePrep kMake cvTrees tidyTs tidyOs consA idsC cvIds tvIds argIds obIds hasId reach consB mkObjs convTVs tvsIds evs ci1 ci0 callIV kCallV convObj cb3 cb2 cb1 cb0 callBV kBack kCallB delAll bwd bwdO posOf uniq nodupB plainCV plainTV1 plainTV litCV litTV1 litTV guardO convArgs convTV convCV callP callL callK callF callM callVal kCall fwd allSome boolTV gCode kCond kPut kBox kAlloc kStore kRows kApp kAm fls gRun gSkip kGuard kNone push storePrep rowsPrep appPrep boolAt pureBuild fillC placeT rowsFrom treesOf dstAt runOp pureVal heavyOp behindO St.eval St.get St.put St.obj St.new St.setObj St.delOpt St.delObj look upd del cv1 lit_eq pickTV pureBin binLit isShift isCmp cmpInt arithInt shiftInt strBin boolBin isBool isBoolT isStrT elemT unLit pureConv
  someTV fieldOf addrTV loadTV TK.isRow pureIndexAddr pureIndexSl ptrA arrT idxA buildA pureIndex pureCut cutB cutSize cutTV pureLen pureMinMax lenTV tvCells isJunk splice constTV argSlots srcKind dstOf srcOf Value.oneCell' blockQ thenQ retTV oneTV renTV renTV1 renCV renObj invl
end Go.Proofs.YtaolgdpkcbfocaaDoorA
