/- The calculus, fourth part: one operation at a time. -/
import Derived.Test.YtaolgdpkcbfocaaDoorAm3
namespace Go.Proofs.YtaolgdpkcbfocaaDoorA
set_option autoImplicit false
set_option linter.unusedVariables false

def dstOk (n : Nat) (o : Oper) : Bool :=
  match o.dst with
  | some d => decide (d < n)
  | none => true
theorem dstOk_lt {n : Nat} {o : Oper} (h : dstOk n o = true) : ∀ d, o.dst = some d → d < n := by
  intro d hd
  simpa [dstOk, hd] using h

section
variable {P : Program} {Γ : Nat → Option Row} {C : Ctx} {Q : Exit → St → Prop} {st : St} {o : Oper} {K : St → Prop}

theorem amOp_pure {x : TV} (hd : dstOk C.n o = true) (hk : K (st.put o.dst x)) (hv : ∀ E a w, RelE E C st a w → ∃ v, (execOp a.eval o).run P w = .ok (.value v) w ∧ RT E w v x) : amOp P C o Q K st := by
  intro a w ⟨E, hr⟩ next hn
  obtain ⟨v, h1, h2⟩ := hv E a w hr
  unfold Oper.wp
  rw [h1]
  exact hn _ _ ⟨_, hk, E, hr.put h2 (dstOk_lt hd)⟩
theorem amOp_step {st' : St} {x : TV} (hd : dstOk C.n o = true) (hk : K (st'.put o.dst x))
    (hv : ∀ E a w, RelE E C st a w → ∃ E' v w', (execOp a.eval o).run P w = .ok (.value v) w' ∧ RelE E' C st' a w' ∧ RT E' w' v x) : amOp P C o Q K st := by
  intro a w ⟨E, hr⟩ next hn
  obtain ⟨E', v, w', h1, h2, h3⟩ := hv E a w hr
  unfold Oper.wp
  rw [h1]
  exact hn _ _ ⟨_, hk, E', h2.put h3 (dstOk_lt hd)⟩
theorem amOp_do {st' : St} (hd : dstOk C.n o = true) (hk : K (st'.put o.dst (.c .junk)))
    (hv : ∀ E a w, RelE E C st a w → ∃ E' w', (execOp a.eval o).run P w = .ok .skip w' ∧ RelE E' C st' a w') : amOp P C o Q K st := by
  intro a w ⟨E, hr⟩ next hn
  obtain ⟨E', w', h1, h2⟩ := hv E a w hr
  unfold Oper.wp
  rw [h1]
  exact hn _ _ ⟨_, hk, E', h2.put (x := .c .junk) trivial (dstOk_lt hd)⟩

theorem amOp_move {x : Operand} (ho : o.op = .move x ∨ o.op = .assign x) (hd : dstOk C.n o = true) (hk : K (st.put o.dst (st.eval x))) : amOp P C o Q K st :=
  amOp_pure hd hk fun E a w hr => ⟨a.eval x, by rcases ho with ho | ho <;> simp [execOp, ho], hr.eval x⟩

def pickTV (b : Bool) (x y : TV) : TV :=
  match cv1 x, cv1 y with
  | some (.bool p), some (.bool q) => lit (.bool (if b = true then p else q))
  | _, _ => if b = true then x else y
theorem pickTV_eq (b : Bool) (x y : TV) : pickTV b x y = if b = true then x else y := by
  unfold pickTV
  split
  · rename_i p q h1 h2
    rw [cv1_some h1, cv1_some h2]
    cases b <;> rfl
  · rfl
theorem amOp_pick {c x y : Operand} {b : Bool} (ho : o.op = .pick c x y) (hc : st.eval c = lit (.bool b)) (hd : dstOk C.n o = true) (hk : K (st.put o.dst (pickTV b (st.eval x) (st.eval y)))) : amOp P C o Q K st := by
  refine amOp_pure hd hk fun E a w hr => ?_
  refine ⟨if b = true then a.eval x else a.eval y, ?_, ?_⟩
  · have := hr.lit hc
    simp [execOp, ho, this, asBool]
  · rw [pickTV_eq]
    cases b
    · exact hr.eval y
    · exact hr.eval x

theorem amOp_bin {op : BinOp} {ty yt : TypeId} {x y : Operand} {u v r : Value} (ho : o.op = .binOp op ty x y yt) (hx : st.eval x = lit u) (hy : st.eval y = lit v) (hr : binLit op u v = some r) (hr1 : r.oneCell' = true)
    (hb : isBool u = true → P.underlying ty = some .bool) (hd : dstOk C.n o = true) (hk : K (st.put o.dst (lit r))) : amOp P C o Q K st := by
  refine amOp_pure hd hk fun E a w h => ⟨r, ?_, .v r hr1⟩
  have h1 := binLit_run (P := P) (x := x) (y := y) (w := w) hr hb
  rw [← h.lit hx, ← h.lit hy] at h1
  unfold execOp
  simp only [ho]
  rw [Sem.run_bind, h1]
  rfl

def unLit (op : UnOp) : Value → Option Value
  | .int k n => match op with
    | .neg => some (.int k (k.wrap (0 - n)))
    | .xor => some (.int k (bXor k (if k.signed then -1 else k.max) n))
    | _ => none
  | .bool b => match op with
    | .not => some (.bool (!b))
    | _ => none
  | _ => none
theorem amOp_un {op : UnOp} {ty : TypeId} {x : Operand} {u r : Value} (ho : o.op = .unOp op ty x) (hx : st.eval x = lit u) (hr : unLit op u = some r) (hd : dstOk C.n o = true) (hk : K (st.put o.dst (lit r))) : amOp P C o Q K st := by
  refine amOp_pure hd hk fun E a w h => ?_
  have h1 := h.lit hx
  cases u <;> simp only [unLit, reduceCtorEq] at hr
  case int k n => cases op <;> simp at hr <;> subst hr <;> exact ⟨_, by simp [execOp, ho, h1, Op.unary, Op.intArith, Op.intBits, bXor], .v _ rfl⟩
  case bool b => cases op <;> simp at hr <;> subst hr <;> exact ⟨_, by simp [execOp, ho, h1, Op.unary], .v _ rfl⟩

theorem amOp_conv {s d : TypeId} {x : Operand} {k k' : IntKind} {n : Int} {D : TypeDesc} (ho : o.op = .convert s d x) (hs : P.underlying s = some D) (hk' : P.underlying d = some (.int k')) (hx : st.eval x = lit (.int k n)) (hd : dstOk C.n o = true)
    (hk : K (st.put o.dst (lit (.int k' (k'.wrap n))))) : amOp P C o Q K st :=
  amOp_pure hd hk fun E a w h => ⟨_, by simp [execOp, ho, h.lit hx, convert, run_underlying hs, run_underlying hk', Conv.intToInt], .v _ rfl⟩
theorem amOp_convStr {s d : TypeId} {x : Operand} {b : ByteArray} {D : TypeDesc} (ho : o.op = .convert s d x) (hs : P.underlying s = some D) (hk' : P.underlying d = some .string) (hx : st.eval x = lit (.string b)) (hd : dstOk C.n o = true)
    (hk : K (st.put o.dst (lit (.string b)))) : amOp P C o Q K st :=
  amOp_pure hd hk fun E a w h => ⟨.string b, by simp [execOp, ho, h.lit hx, convert, run_underlying hs, run_underlying hk'], .v _ rfl⟩

/-- The values that are no nil. -/
def someTV : TV → Bool
  | .c (.ptr _ _) | .c (.ep _ _ _) | .c (.rp _) => true
  | .c (.t (.v (.func (.func _) _ _))) => true
  | _ => false
theorem amOp_nilCheck {x : Operand} (ho : o.op = .nilCheck x) (hx : someTV (st.eval x) = true) (hd : dstOk C.n o = true) (hk : K (st.put o.dst (st.eval x))) : amOp P C o Q K st := by
  refine amOp_pure hd hk fun E a w h => ?_
  have h1 := h.eval x
  refine ⟨a.eval x, ?_, h1⟩
  generalize st.eval x = y at hx h1
  unfold someTV at hx
  split at hx
  · obtain ⟨g, b, _, h2⟩ := (rtC h1); simp [execOp, ho, h2]
  · obtain ⟨g, sz, cap, _, h2⟩ := (rtC h1); simp [execOp, ho, h2]
  · obtain ⟨g, b, h2, _⟩ := (rtC h1); simp [execOp, ho, h2]
  · have h2 := ro_v (rtT h1); simp [execOp, ho, h2]
  · cases hx

/-! ### Addresses -/
def addrTV (n : Nat) : TV → Option TV
  | .c (.ptr id off) => some (.c (.ptr id (off + n)))
  | .c (.ep id i j) => some (.c (.ep id i (j + n)))
  | .c (.rp xs) => some (.c (.rp (xs.drop n)))
  | _ => none
theorem addrTV_ok {E : Env} {w : World} {n : Nat} {v : Value} {x y : TV} (h : RT E w v x) (hy : addrTV n x = some y) : ∃ g off, v = .pointer (some ⟨g, off, none⟩) ∧ RT E w (.pointer (some ⟨g, off + n, none⟩)) y := by
  unfold addrTV at hy
  split at hy
  · cases hy; obtain ⟨g, b, h1, h2⟩ := (rtC h); exact ⟨g, _, h2, g, b, h1, by rw [Nat.add_assoc]⟩
  · cases hy; obtain ⟨g, sz, cap, h1, h2⟩ := (rtC h); exact ⟨g, _, h2, g, sz, cap, h1, by rw [Nat.add_assoc]⟩
  · cases hy
    obtain ⟨g, b, h1, h2⟩ := (rtC h)
    refine ⟨g, _, h1, g, b + n, rfl, fun j t ht => ?_⟩
    rw [List.getElem?_drop] at ht
    have := h2 (n + j) t ht
    rwa [← Nat.add_assoc] at this
  · cases hy
def fieldOf (Γ : Nat → Option Row) (t f : Nat) : Option (Nat × Nat × Row) :=
  match Γ t with
  | some r => match r.k with
    | .struct fs => match fs[f]? with
      | some (off, ty) => (Γ ty).map fun q => (off, ty, q)
      | none => none
    | _ => none
  | none => none
theorem fieldOf_ok (hΓ : TabOk P Γ) {t f off ty : Nat} {q : Row} (h : fieldOf Γ t f = some (off, ty, q)) :
    ∃ fs fd, P.underlying t = some (.struct fs) ∧ fs[f]? = some fd ∧ fd.offset = off ∧ fd.type = ty ∧ RowOk P ty q := by
  unfold fieldOf at h
  split at h
  · rename_i r hr
    split at h
    · rename_i fs hk
      split at h
      · rename_i off' ty' hf
        cases hq : Γ ty' with
        | none => simp [hq] at h
        | some q' =>
          simp [hq] at h
          obtain ⟨rfl, rfl, rfl⟩ := h
          have h1 := (hΓ t r hr).k
          rw [hk] at h1
          obtain ⟨fa, h2, h3⟩ := h1
          subst h3
          rw [List.getElem?_map] at hf
          cases h4 : fa.toList[f]? with
          | none => simp [h4] at hf
          | some fd =>
            simp [h4] at hf
            refine ⟨fa, fd, h2, by simpa using h4, hf.1, hf.2, hΓ _ _ hq⟩
      · cases h
    · cases h
  · cases h
theorem amOp_fieldAddr (hΓ : TabOk P Γ) {s : TypeId} {x : Operand} {f off ty : Nat} {q : Row} {y : TV} (ho : o.op = .fieldAddr s x f) (hf : fieldOf Γ s f = some (off, ty, q)) (hq : q.size ≠ 0) (hy : addrTV off (st.eval x) = some y)
    (hd : dstOk C.n o = true) (hk : K (st.put o.dst y)) : amOp P C o Q K st := by
  refine amOp_pure hd hk fun E a w h => ?_
  obtain ⟨g, b, h1, h2⟩ := addrTV_ok (h.eval x) hy
  refine ⟨_, ?_, h2⟩
  obtain ⟨fs, fd, h3, h4, h5, h6, h7⟩ := fieldOf_ok hΓ hf
  obtain ⟨i, h8, h9, _⟩ := h7.info
  subst h5; subst h6
  simp [execOp, ho, h1, Instr.fieldAt, run_underlying h3, h4, Instr.sureAddr, fieldPlace, sizeOf, typeInfo, h8, h9, hq, Addr.add_mid]

/-! ### What lies behind an address -/
theorem choose_list {α β : Type} {R : Nat → α → β → Prop} : ∀ {ys : List β}, (∀ j y, ys[j]? = some y → ∃ v, R j v y) → ∃ vs : List α, vs.length = ys.length ∧ ∀ j v y, vs[j]? = some v → ys[j]? = some y → R j v y
  | [], _ => ⟨[], rfl, fun j v y h => by simp at h⟩
  | y :: ys, h => by
    obtain ⟨v, hv⟩ := h 0 y rfl
    obtain ⟨vs, h1, h2⟩ := choose_list (R := fun j => R (j + 1)) (ys := ys) fun j y' hy => h (j + 1) y' (by simpa using hy)
    refine ⟨v :: vs, by simp [h1], fun j u z hu hz => ?_⟩
    cases j with
    | zero => simp at hu hz; subst hu; subst hz; exact hv
    | succ j => exact h2 j u z (by simpa using hu) (by simpa using hz)
/-- Cells from one address on, told one by one. -/
structure Reads (E : Env) (w : World) (g off : Nat) (vs : List Value) (cs : List CV) : Prop where
  len : vs.length = cs.length
  range : w.rangeAt g off vs
  rc : All2 (RC E w) vs cs
theorem reads_of {E : Env} {w : World} {g off : Nat} {cs : List CV} (h : ∀ j c, cs[j]? = some c → ∃ v, w.cell? ⟨g, off + j, none⟩ = some v ∧ RC E w v c) : ∃ vs, Reads E w g off vs cs := by
  obtain ⟨vs, h1, h2⟩ := choose_list h
  refine ⟨vs, h1, fun j v hv => ?_, All2.mk h1 fun i v c hv hc => (h2 i v c hv hc).2⟩
  have hj : j < cs.length := by rw [← h1]; exact (List.getElem?_eq_some_iff.1 hv).1
  exact (h2 j v _ hv (List.getElem?_eq_getElem hj)).1
/-- The cells that an address leads to. -/
def behind (st : St) : TV → Option (List CV)
  | .c (.ptr id off) => match st.obj id with
    | some (.cells xs) => some (xs.drop off)
    | _ => none
  | .c (.ep id i j) => match st.obj id with
    | some (.arr _ _ xs) => (xs[i]?).map fun x => (x.drop j).map .t
    | _ => none
  | .c (.rp xs) => some (xs.map .t)
  | _ => none
theorem behind_ok {E : Env} {a : Act} {w : World} (hr : RelE E C st a w) {v : Value} {x : TV} {cs : List CV} (h : RT E w v x) (hb : behind st x = some cs) :
    ∃ g off, v = .pointer (some ⟨g, off, none⟩) ∧ ∀ j c, cs[j]? = some c → ∃ u, w.cell? ⟨g, off + j, none⟩ = some u ∧ RC E w u c := by
  unfold behind at hb
  split at hb
  · rename_i id off
    split at hb
    · rename_i xs hob
      cases hb
      obtain ⟨g, base, h1, h2⟩ := (rtC h)
      obtain ⟨g', base', cur, ty, h3, h4, h5, h6⟩ := hr.objs _ _ hob
      rw [h1] at h3; cases h3
      refine ⟨g, base + off, h2, fun j c hc => ?_⟩
      rw [List.getElem?_drop] at hc
      obtain ⟨_, u, h7, _, h8⟩ := h6 (off + j) c hc
      exact ⟨u, by rw [cur_cell h4, Nat.add_assoc]; exact h7, h8⟩
    · cases hb
  · rename_i id i j
    split at hb
    · rename_i ty sz xs hob
      obtain ⟨g, sz', cap, h1, h2⟩ := (rtC h)
      rcases hr.objs _ _ hob with ⟨h3, h4⟩ | ⟨g', cap', cur, h3, h4, h5, h6, h7, h8, h9, h10⟩
      · rw [h1] at h3; cases h3
      rw [h1] at h3; cases h3
      cases hx : xs[i]? with
      | none => simp [hx] at hb
      | some e =>
        simp [hx] at hb
        subst hb
        refine ⟨g, i * sz + j, h2, fun k c hc => ?_⟩
        rw [List.getElem?_drop, List.getElem?_map] at hc
        cases ht : e[j + k]? with
        | none => simp [ht] at hc
        | some t =>
          simp [ht] at hc
          subst hc
          obtain ⟨u, h11, h12⟩ := h10 i e hx (j + k) t ht
          exact ⟨u, by rw [cur_cell h4, Nat.add_assoc]; exact h11, h12⟩
    · cases hb
  · rename_i xs
    cases hb
    obtain ⟨g, off, h1, h2⟩ := (rtC h)
    refine ⟨g, off, h1, fun k c hc => ?_⟩
    rw [List.getElem?_map] at hc
    cases ht : xs[k]? with
    | none => simp [ht] at hc
    | some t =>
      simp [ht] at hc
      subst hc
      obtain ⟨_, u, h3, h4⟩ := h2 k t ht
      exact ⟨u, h3, h4⟩
  · cases hb
/-- A variable's value out of its cells. -/
def loadTV (r : Row) (cs : List CV) : Option TV :=
  if r.k.isRow = true then (if r.size ≤ cs.length then some (.agg (cs.take r.size)) else none)
  else match cs with
    | c :: _ => some (.c c)
    | [] => none
theorem run_isAgg {t : TypeId} {D : TypeDesc} {w : World} (hD : P.underlying t = some D) : (isAgg t).run P w = .ok D.isRow w := by
  unfold isAgg
  rw [Sem.run_bind, run_underlying hD w]
  cases D <;> rfl
theorem amOp_load (hΓ : TabOk P Γ) {t : TypeId} {x : Operand} {r : Row} {cs : List CV} {y : TV} (ho : o.op = .load t x) (ht : Γ t = some r) (hb : behind st (st.eval x) = some cs) (hy : loadTV r cs = some y) (hd : dstOk C.n o = true)
    (hk : K (st.put o.dst y)) : amOp P C o Q K st := by
  refine amOp_pure hd hk fun E a w h => ?_
  obtain ⟨g, off, h1, h2⟩ := behind_ok h (h.eval x) hb
  have hrow := hΓ t r ht
  obtain ⟨D, hD, hDr⟩ := row_isAgg hrow
  obtain ⟨i, hi, hsz, _⟩ := hrow.info
  unfold loadTV at hy
  split at hy
  · rename_i hisr
    split at hy
    · rename_i hle
      cases hy
      obtain ⟨vs, hv⟩ := reads_of (g := g) (off := off) (cs := cs.take r.size) fun j c hc => by
        rw [List.getElem?_take] at hc
        split at hc
        · exact h2 j c hc
        · cases hc
      have hl := hv.len
      rw [List.length_take, Nat.min_eq_left hle] at hl
      refine ⟨.agg vs.toArray, ?_, vs, rfl, hv.rc⟩
      have hx : a.eval x = .pointer (some ⟨g, off, none⟩) := h1
      have := run_loadAt_mid (P := P) w g off t vs D hv.range hD (by rw [hDr]; exact hisr) (by simp [hi, hl, hsz])
      unfold execOp
      simp only [ho, hx]
      rw [Sem.run_bind, this]
      rfl
    · cases hy
  · rename_i hisr
    split at hy
    · rename_i c cs'
      cases hy
      obtain ⟨u, h3, h4⟩ := h2 0 c rfl
      refine ⟨u, ?_, h4⟩
      have hx : a.eval x = .pointer (some ⟨g, off, none⟩) := h1
      have hagg : (isAgg t).run P w = .ok false w := by
        rw [run_isAgg hD, hDr, Bool.eq_false_iff.mpr hisr]
      have h3' : w.cell? ⟨g, off, none⟩ = some u := h3
      simp [execOp, ho, hx, Instr.loadAt, Instr.sureAddr, loadVar, hagg, h3']
    · cases hy
end
end Go.Proofs.YtaolgdpkcbfocaaDoorA
