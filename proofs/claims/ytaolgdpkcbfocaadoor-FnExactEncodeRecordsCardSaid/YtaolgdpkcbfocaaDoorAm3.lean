/- The calculus, third part: operations that only reckon. -/
import Derived.Test.YtaolgdpkcbfocaaDoorAm2
import Derived.Deep.MidRow
import Derived.Laws.StructEq
namespace Go.Proofs.YtaolgdpkcbfocaaDoorA
set_option autoImplicit false
set_option linter.unusedVariables false

/-! ### Types, told shortly -/
inductive TK where
  | int (k : IntKind)
  | bool
  | str
  | struct (fs : List (Nat × Nat))
  | slice (e : Nat)
  | arr (n e : Nat)
  | map (k e : Nat)
  | other
structure Row where
  k : TK
  size : Nat
  bytes : Nat
  zero : List Value
def TK.isRow : TK → Bool
  | .struct _ | .arr _ _ => true
  | _ => false
def kOk (P : Program) (t : Nat) : TK → Prop
  | .int k => P.underlying t = some (.int k)
  | .bool => P.underlying t = some .bool
  | .str => P.underlying t = some .string
  | .struct fs => ∃ f : Array Field, P.underlying t = some (.struct f) ∧ f.toList.map (fun x => (x.offset, x.type)) = fs
  | .slice e => P.underlying t = some (.slice e)
  | .arr n e => P.underlying t = some (.array n e)
  | .map k e => P.underlying t = some (.map k e)
  | .other => ∃ d, P.underlying t = some d ∧ d.isRow = false
structure RowOk (P : Program) (t : Nat) (r : Row) : Prop where
  k : kOk P t r.k
  info : ∃ i, P.info? t = some i ∧ i.size = r.size ∧ i.bytes = r.bytes ∧ (∃ z, i.zero = some z ∧ z.cells.toList = r.zero ∧ (r.k.isRow = true → z = .agg r.zero.toArray)) ∧ r.zero.length = r.size ∧ r.zero.all (·.oneCell') = true ∧ (r.k.isRow = false → r.size = 1)
/-- A table of types that is told rightly. -/
def TabOk (P : Program) (Γ : Nat → Option Row) : Prop := ∀ t r, Γ t = some r → RowOk P t r

theorem row_isAgg {P : Program} {t : Nat} {r : Row} (h : RowOk P t r) : ∃ d, P.underlying t = some d ∧ d.isRow = r.k.isRow := by
  have := h.k
  cases hk : r.k <;> simp only [hk, kOk] at this
  case struct fs => obtain ⟨f, h1, h2⟩ := this; exact ⟨_, h1, rfl⟩
  case other => obtain ⟨d, h1, h2⟩ := this; exact ⟨d, h1, h2⟩
  all_goals exact ⟨_, this, rfl⟩

/-! ### Plain values -/
@[reducible] def lit (v : Value) : TV := .c (.t (.v v))
def cv1 : TV → Option Value
  | .c (.t (.v u)) => some u
  | _ => none
theorem cv1_some {x : TV} {v : Value} (h : cv1 x = some v) : x = lit v := by
  unfold cv1 at h
  split at h
  · cases h; rfl
  · cases h

def cmpInt (op : BinOp) (a b : Int) : Option Bool :=
  match op with
  | .eql => some (a == b)
  | .neq => some (a != b)
  | .lss => some (decide (a < b))
  | .leq => some (decide (a ≤ b))
  | .gtr => some (decide (a > b))
  | .geq => some (decide (a ≥ b))
  | _ => none
def bAnd (k : IntKind) (a b : Int) : Int := k.wrap ((BitVec.ofInt k.bits a &&& BitVec.ofInt k.bits b).toNat)
def bOr (k : IntKind) (a b : Int) : Int := k.wrap ((BitVec.ofInt k.bits a ||| BitVec.ofInt k.bits b).toNat)
def bXor (k : IntKind) (a b : Int) : Int := k.wrap ((BitVec.ofInt k.bits a ^^^ BitVec.ofInt k.bits b).toNat)
def arithInt (op : BinOp) (k : IntKind) (a b : Int) : Option Int :=
  match op with
  | .add => some (k.wrap (a + b))
  | .sub => some (k.wrap (a - b))
  | .mul => some (k.wrap (a * b))
  | .quo => if b = 0 then none else some (k.wrap (a.tdiv b))
  | .rem => if b = 0 then none else some (a.tmod b)
  | .and => some (bAnd k a b)
  | .or => some (bOr k a b)
  | .xor => some (bXor k a b)
  | _ => none
def shiftInt (op : BinOp) (k : IntKind) (a b : Int) : Option Int :=
  match op with
  | .shl => if b < 0 then none else some (k.wrap (a * 2 ^ (min b.toNat k.bits)))
  | .shr => if b < 0 then none else some (a.fdiv (2 ^ (min b.toNat k.bits)))
  | _ => none
def isShift : BinOp → Bool
  | .shl | .shr => true
  | _ => false
def isCmp : BinOp → Bool
  | .eql | .neq | .lss | .leq | .gtr | .geq => true
  | _ => false
def strBin (op : BinOp) (s t : ByteArray) : Option Value :=
  match op with
  | .add => if ((s.size + t.size : Nat) : Int) > IntKind.i64.max then none else some (.string (s ++ t))
  | .eql => some (.bool (decide (s = t)))
  | .neq => some (.bool (!decide (s = t)))
  | .lss => some (.bool (Op.bytesLess s.toList t.toList))
  | .leq => some (.bool (Op.bytesLess s.toList t.toList || decide (s = t)))
  | .gtr => some (.bool (!(Op.bytesLess s.toList t.toList || decide (s = t))))
  | .geq => some (.bool (!Op.bytesLess s.toList t.toList))
  | _ => none
def boolBin (op : BinOp) (s t : Bool) : Option Value :=
  match op with
  | .eql => some (.bool (s == t))
  | .neq => some (.bool (!(s == t)))
  | _ => none
/-- Two plain values, one operation. -/
def binLit (op : BinOp) : Value → Value → Option Value
  | .int k a, .int k' b =>
    if isShift op = true then (shiftInt op k a b).map (.int k)
    else if k = k' then (if isCmp op = true then (cmpInt op a b).map .bool else (arithInt op k a b).map (.int k)) else none
  | .string s, .string t => strBin op s t
  | .bool s, .bool t => boolBin op s t
  | _, _ => none
def isBool : Value → Bool
  | .bool _ => true
  | _ => false

theorem bytes_eq (s t : ByteArray) : (s.toList == t.toList) = decide (s = t) := by
  rw [ByteArray.toList_eq, ByteArray.toList_eq, Bool.eq_iff_iff, beq_iff_eq, decide_eq_true_iff]
  obtain ⟨⟨x⟩⟩ := s
  obtain ⟨⟨y⟩⟩ := t
  simp

theorem run_boolEq {P : Program} {ty : TypeId} {w : World} {s t : Bool} (hb : P.underlying ty = some .bool) : (Op.equal ty (.bool s) (.bool t)).run P w = .ok (s == t) w :=
  run_equalIn_bool' w 9999 ty s t hb
theorem binLit_run {P : Program} {op : BinOp} {u v r : Value} {ty : TypeId} {x y : Operand} {w : World} (h : binLit op u v = some r) (hb : isBool u = true → P.underlying ty = some .bool) :
    (do eqGuard op ty x y u v; binOp op ty u v : Sem Value).run P w = .ok r w := by
  cases u <;> cases v <;> simp only [binLit, reduceCtorEq] at h
  case int.int k a k' b =>
    split at h
    · rename_i hs
      cases op <;> simp [isShift] at hs <;> simp [shiftInt] at h <;> obtain ⟨c, h1, rfl⟩ := h <;> obtain ⟨h0, rfl⟩ := h1 <;>
        simp [eqGuard, binOp, Op.shift, show ¬ b < 0 by omega]
    · rename_i hs
      split at h
      · rename_i hk
        subst hk
        split at h
        · rename_i hc
          cases op <;> simp [isCmp] at hc <;> simp [cmpInt] at h <;> subst h <;> simp [eqGuard, binOp, Op.intCmp]
        · rename_i hc
          cases op <;> simp [isCmp, isShift] at hc hs <;> simp [arithInt] at h <;>
            first
              | (subst h; simp [eqGuard, binOp, Op.intArith, Op.intBits, bAnd, bOr, bXor]; done)
              | (obtain ⟨c, ⟨h1, h2⟩, h3⟩ := h; subst h2; subst h3; simp [eqGuard, binOp, Op.intDiv, h1])
      · cases h
  case string.string s t =>
    cases op <;> simp [strBin] at h <;>
      first
        | (subst h; simp [eqGuard, binOp, Op.stringOp, bytes_eq]; done)
        | (obtain ⟨h1, h2⟩ := h; subst h2; simp [eqGuard, binOp, Op.stringOp]; omega)
  case bool.bool s t =>
    have hb' := hb rfl
    cases op <;> simp [boolBin] at h <;> subst h <;> simp [eqGuard, binOp, run_boolEq hb']
end Go.Proofs.YtaolgdpkcbfocaaDoorA
