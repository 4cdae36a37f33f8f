/- The calculus: structs of plain fields compared. -/
import Derived.Test.YtaolgdpkcbfocaaDoorAm12
import Derived.Laws.StructEq
import Derived.ChangeKeysEq
namespace Go.Proofs.YtaolgdpkcbfocaaDoorA
set_option autoImplicit false
set_option linter.unusedVariables false
/-- A struct type whose values are compared field by field. -/
def EqStOk (P : Program) (t : TypeId) : Prop := ∃ fs, P.underlying t = some (.struct fs) ∧ (∀ f, f ∈ fs.toList → f.name ≠ "_") ∧ P.stoodInHeld t = false ∧ P.eqGuardType P.depth t = false
/-- An array type whose values are compared item by item. -/
def EqArOk (P : Program) (t : TypeId) : Prop := ∃ n e, P.underlying t = some (.array n e) ∧ P.eqGuardType P.depth t = false
def EqTyOk (P : Program) (t : TypeId) : Prop := EqStOk P t ∨ EqArOk P t
def eqOne (Γ : Nat → Option Row) (ty : Nat) (x y : Option CV) : Option Bool :=
  match Γ ty, x, y with
  | some r, some (.t (.v u)), some (.t (.v v)) => match r.k, u, v with
    | .int _, .int k a, .int k' b => if k = k' then some (a == b) else none
    | .str, .string a, .string b => some (a == b)
    | .bool, .bool a, .bool b => some (a == b)
    | _, _, _ => none
  | _, _, _ => none
def eqF (Γ : Nat → Option Row) (xs ys : List CV) : List (Nat × Nat) → Option Bool
  | [] => some true
  | (off, ty) :: fs => match eqOne Γ ty xs[off]? ys[off]? with
    | some b => (eqF Γ xs ys fs).map (b && ·)
    | none => none
/-- A field that is a struct of plain fields. -/
def nestB (Γ : Nat → Option Row) (eqs : List Nat) (ty off : Nat) (xs ys : List CV) : Option Bool → Option Bool
  | some b => some b
  | none => match Γ ty with
    | some r => match r.k with
      | .struct fs => if eqs.contains ty = true then eqF Γ ((xs.drop off).take r.size) ((ys.drop off).take r.size) fs else none
      | _ => none
    | none => none
def eqF2 (Γ : Nat → Option Row) (eqs : List Nat) (xs ys : List CV) : List (Nat × Nat) → Option Bool
  | [] => some true
  | (off, ty) :: fs =>
    match nestB Γ eqs ty off xs ys (eqOne Γ ty xs[off]? ys[off]?) with
    | some b => (eqF2 Γ eqs xs ys fs).map (b && ·)
    | none => none
/-- A type of one cell. -/
def oneT (Γ : Nat → Option Row) (e : Nat) : Bool :=
  match Γ e with
  | some q => decide (q.size = 1)
  | none => false
def eqVal (Γ : Nat → Option Row) (eqs : List Nat) (op : BinOp) (t : Nat) (x y : TV) : Option TV :=
  match op, Γ t, x, y with
  | .eql, some r, .agg xs, .agg ys => match r.k with
    | .struct fs => if eqs.contains t = true then (eqF2 Γ eqs xs ys fs).map fun b => lit (.bool b) else none
    | .arr n e => if eqs.contains t = true ∧ r.zero.length = n ∧ oneT Γ e = true then (eqF Γ xs ys (idxFs e r.zero 0)).map fun b => lit (.bool b) else none
    | _ => none
  | .neq, some r, .agg xs, .agg ys => match r.k with
    | .struct fs => if eqs.contains t = true then (eqF2 Γ eqs xs ys fs).map fun b => lit (.bool !b) else none
    | .arr n e => if eqs.contains t = true ∧ r.zero.length = n ∧ oneT Γ e = true then (eqF Γ xs ys (idxFs e r.zero 0)).map fun b => lit (.bool !b) else none
    | _ => none
  | _, _, _, _ => none
/-- What is known of a program's types: those whose values are compared part by part; pointer types; the methods of these. -/
structure Eqs where
  tys : List Nat
  ptrs : List Nat
  mth : Nat → String → Option Nat
def PtrOk (P : Program) (t : TypeId) : Prop := ∃ e i, P.underlying t = some (.pointer e) ∧ P.info? t = some i ∧ i.zero = some (.pointer none)
structure EqsOk (P : Program) (eqs : Eqs) : Prop where
  tys : ∀ t, t ∈ eqs.tys → EqTyOk P t
  ptrs : ∀ t, t ∈ eqs.ptrs → PtrOk P t
  mth : ∀ t n f, eqs.mth t n = some f → MthOk P t n f
/-- A pointer as a value of an interface; the same value asked for its type. -/
def ifpPrep (eqs : Eqs) (t : Nat) : TV → Option TV
  | .c (.ptr id off) => if eqs.ptrs.contains t = true then some (.c (.ifp t id off)) else none
  | .c (.rp xs) => if eqs.ptrs.contains t = true then some (.c (.irp t xs)) else none
  | _ => none
def assertPrep (eqs : Eqs) (t : Nat) (ok : Bool) : TV → Option TV
  | .c (.ifp ty id off) => if ok = true ∧ eqs.ptrs.contains t = true then (if ty = t then some (.tup [.c (.ptr id off), lit (.bool true)]) else some (.tup [lit (.pointer none), lit (.bool false)])) else none
  | .c (.irp ty xs) => if ok = true ∧ eqs.ptrs.contains t = true then (if ty = t then some (.tup [.c (.rp xs), lit (.bool true)]) else some (.tup [lit (.pointer none), lit (.bool false)])) else none
  | _ => none
section
variable {P : Program} {Γ : Nat → Option Row} {C : Ctx} {Q : Exit → St → Prop} {st : St} {o : Oper} {K : St → Prop} {E : Env} {a : Act} {w : World}
theorem ifpPrep_ok {eqs : Eqs} (he : EqsOk P eqs) {t : TypeId} {x : Operand} {X : TV} (ho : o.op = .makeInterface t x) (h : ifpPrep eqs t (st.eval x) = some X) (hd : dstOk C.n o = true) (hK : K (st.put o.dst X)) : amOp P C o Q K st := by
  unfold ifpPrep at h
  split at h
  · rename_i id off hx
    split at h
    · rename_i hm
      cases h
      obtain ⟨e, i, hu, _⟩ := he.ptrs t (by simpa using hm)
      refine amOp_pure hd hK fun E a w hr => ?_
      have h1 := hr.eval x
      rw [hx] at h1
      obtain ⟨g, base, h2, h3⟩ := rtC h1
      exact ⟨_, by simp [execOp, ho, h3, Instr.makeInterface, run_underlying hu], g, base, h2, rfl⟩
    · cases h
  · rename_i tr hx
    split at h
    · rename_i hm
      cases h
      obtain ⟨e, i, hu, _⟩ := he.ptrs t (by simpa using hm)
      refine amOp_pure hd hK fun E a w hr => ?_
      have h1 := hr.eval x
      rw [hx] at h1
      obtain ⟨g, base, h3, h2⟩ := rtC h1
      exact ⟨_, by simp [execOp, ho, h3, Instr.makeInterface, run_underlying hu], g, base, rfl, h2⟩
    · cases h
  · cases h
theorem assertPrep_ok {eqs : Eqs} (he : EqsOk P eqs) {xt t : TypeId} {ok : Bool} {x : Operand} {X : TV} (ho : o.op = .typeAssert x xt t ok) (h : assertPrep eqs t ok (st.eval x) = some X) (hd : dstOk C.n o = true) (hK : K (st.put o.dst X)) : amOp P C o Q K st := by
  unfold assertPrep at h
  split at h
  · rename_i ty id off hx
    split at h
    · rename_i hm
      obtain ⟨rfl, hm⟩ := hm
      obtain ⟨e, i, hu, hi, hz⟩ := he.ptrs t (by simpa using hm)
      split at h
      · rename_i ht
        subst ht
        cases h
        refine amOp_pure hd hK fun E a w hr => ?_
        have h1 := hr.eval x
        rw [hx] at h1
        obtain ⟨g, base, h2, h3⟩ := rtC h1
        exact ⟨.tuple #[.pointer (some ⟨g, base + off, none⟩), .bool true], by simp [execOp, ho, h3, Instr.typeAssert, run_underlying hu], _, rfl, ⟨g, base, h2, rfl⟩, .v _ rfl, trivial⟩
      · rename_i ht
        cases h
        refine amOp_pure hd hK fun E a w hr => ?_
        have h1 := hr.eval x
        rw [hx] at h1
        obtain ⟨g, base, h2, h3⟩ := rtC h1
        exact ⟨.tuple #[.pointer none, .bool false], by simp [execOp, ho, h3, Instr.typeAssert, run_underlying hu, ht, zeroValue, typeInfo, hi, hz], _, rfl, .v _ rfl, .v _ rfl, trivial⟩
    · cases h
  · rename_i ty tr hx
    split at h
    · rename_i hm
      obtain ⟨rfl, hm⟩ := hm
      obtain ⟨e, i, hu, hi, hz⟩ := he.ptrs t (by simpa using hm)
      split at h
      · rename_i ht
        subst ht
        cases h
        refine amOp_pure hd hK fun E a w hr => ?_
        have h1 := hr.eval x
        rw [hx] at h1
        obtain ⟨g, base, h3, h2⟩ := rtC h1
        exact ⟨.tuple #[.pointer (some ⟨g, base, none⟩), .bool true], by simp [execOp, ho, h3, Instr.typeAssert, run_underlying hu], _, rfl, ⟨g, base, rfl, h2⟩, .v _ rfl, trivial⟩
      · rename_i ht
        cases h
        refine amOp_pure hd hK fun E a w hr => ?_
        have h1 := hr.eval x
        rw [hx] at h1
        obtain ⟨g, base, h3, h2⟩ := rtC h1
        exact ⟨.tuple #[.pointer none, .bool false], by simp [execOp, ho, h3, Instr.typeAssert, run_underlying hu, ht, zeroValue, typeInfo, hi, hz], _, rfl, .v _ rfl, .v _ rfl, trivial⟩
    · cases h
  · cases h
theorem eqOne_ok (hΓ : TabOk P Γ) {ty off d : Nat} {us vs : List Value} {xs ys : List CV} {b : Bool} (hx : All2 (RC E w) us xs) (hy : All2 (RC E w) vs ys) (h : eqOne Γ ty xs[off]? ys[off]? = some b) :
    ∃ u v, (part ty us.toArray off).run P w = .ok u w ∧ (part ty vs.toArray off).run P w = .ok v w ∧ (Op.equalIn (d + 1) ty u v).run P w = .ok b w := by
  unfold eqOne at h
  split at h
  · rename_i r u v hr hxo hyo
    obtain ⟨u', h1, h2⟩ := hx.get hxo
    obtain ⟨v', h3, h4⟩ := hy.get hyo
    have := ro_v h2; subst this
    have := ro_v h4; subst this
    have hrow := hΓ ty r hr
    obtain ⟨D, hD, hDr⟩ := row_isAgg hrow
    have hk := hrow.k
    have hpart : ∀ (ws : List Value) (x : Value), ws[off]? = some x → r.k.isRow = false → (part ty ws.toArray off).run P w = .ok x w := fun ws x hw hrow0 => by
      have hagg : (isAgg ty).run P w = .ok false w := by rw [run_isAgg hD, hDr, hrow0]
      simp [part, hagg, hw]
    split at h
    · rename_i k0 k1 m k2 n hk0
      rw [hk0] at hk
      split at h
      · rename_i e; subst e; cases h
        exact ⟨_, _, hpart _ _ h1 (by rw [hk0]; rfl), hpart _ _ h3 (by rw [hk0]; rfl), run_equalIn_int w d ty _ _ _ _ hk⟩
      · cases h
    · rename_i s t hk0
      rw [hk0] at hk
      cases h
      refine ⟨_, _, hpart _ _ h1 (by rw [hk0]; rfl), hpart _ _ h3 (by rw [hk0]; rfl), ?_⟩
      rw [run_equalIn_string w d ty _ _ hk, beq_toListBytes]
    · rename_i s t hk0
      rw [hk0] at hk
      cases h
      exact ⟨_, _, hpart _ _ h1 (by rw [hk0]; rfl), hpart _ _ h3 (by rw [hk0]; rfl), run_equalIn_bool' w d ty _ _ hk⟩
    · cases h
  · cases h
theorem eqF_ok (hΓ : TabOk P Γ) {d : Nat} {us vs : List Value} {xs ys : List CV} (hx : All2 (RC E w) us xs) (hy : All2 (RC E w) vs ys) :
    ∀ {fl : List Field} {b : Bool}, (∀ f, f ∈ fl → f.name ≠ "_") → eqF Γ xs ys (fl.map fun f => (f.offset, f.type)) = some b → (Op.eqFields (d + 1) us.toArray vs.toArray fl).run P w = .ok b w
  | [], b, _, h => by cases h; simp [Op.eqFields]
  | f :: fl, b, hn, h => by
    simp only [List.map_cons, eqF] at h
    split at h
    · rename_i c hc
      cases hr : eqF Γ xs ys (fl.map fun f => (f.offset, f.type)) with
      | none => rw [hr] at h; cases h
      | some c' =>
        rw [hr] at h
        cases h
        obtain ⟨u, v, h1, h2, h3⟩ := eqOne_ok (d := d) hΓ hx hy hc
        have h4 := eqF_ok (d := d) hΓ hx hy (fun g hg => hn g (List.mem_cons_of_mem _ hg)) hr
        rw [Op.eqFields]
        simp only [if_pos (hn f List.mem_cons_self), Sem.run_bind, h1, h2, h3, Result.andThen_ok]
        cases c
        · simp
        · simpa using h4
    · cases h
theorem All2.take' {α β : Type} {R : α → β → Prop} : ∀ {xs : List α} {ys : List β} (n : Nat), All2 R xs ys → All2 R (xs.take n) (ys.take n)
  | _, _, 0, _ => by simp only [List.take_zero]; trivial
  | [], [], n + 1, _ => trivial
  | x :: xs, y :: ys, n + 1, h => ⟨h.1, All2.take' n h.2⟩
  | [], _ :: _, n + 1, h => h.elim
  | _ :: _, [], n + 1, h => h.elim
theorem All2.drop' {α β : Type} {R : α → β → Prop} : ∀ {xs : List α} {ys : List β} (n : Nat), All2 R xs ys → All2 R (xs.drop n) (ys.drop n)
  | _, _, 0, h => h
  | [], [], n + 1, _ => trivial
  | x :: xs, y :: ys, n + 1, h => All2.drop' n h.2
  | [], _ :: _, n + 1, h => h.elim
  | _ :: _, [], n + 1, h => h.elim
theorem nestB_ok (hΓ : TabOk P Γ) {eqs : List Nat} (he : ∀ t, t ∈ eqs → EqTyOk P t) {ty off d : Nat} {us vs : List Value} {xs ys : List CV} {b : Bool} (hx : All2 (RC E w) us xs) (hy : All2 (RC E w) vs ys) (h : nestB Γ eqs ty off xs ys (eqOne Γ ty xs[off]? ys[off]?) = some b) :
    ∃ u v, (part ty us.toArray off).run P w = .ok u w ∧ (part ty vs.toArray off).run P w = .ok v w ∧ (Op.equalIn (d + 2) ty u v).run P w = .ok b w := by
  cases hq : eqOne Γ ty xs[off]? ys[off]? with
  | some c =>
    rw [hq] at h
    cases h
    exact eqOne_ok (d := d + 1) hΓ hx hy hq
  | none =>
    rw [hq] at h
    simp only [nestB] at h
    split at h
    · rename_i r hr
      split at h
      · rename_i fs hfs
        split at h
        · rename_i hm
          have hrow := hΓ ty r hr
          have hst : EqStOk P ty := by
            rcases he ty (by simpa using hm) with h | ⟨n, e, hu, _⟩
            · exact h
            · have hkk := hrow.k
              rw [hfs] at hkk
              obtain ⟨fa', hu', _⟩ := hkk
              rw [hu] at hu'
              cases hu'
          obtain ⟨fa, hu, hn, hp, hg⟩ := hst
          have hkk := hrow.k
          rw [hfs] at hkk
          obtain ⟨fa', hu', hfa⟩ := hkk
          rw [hu] at hu'
          cases hu'
          rw [← hfa] at h
          obtain ⟨D, hD, hDr⟩ := row_isAgg hrow
          obtain ⟨inf, hinf, hsz, _⟩ := hrow.info
          have hpart : ∀ (ws : List Value), (part ty ws.toArray off).run P w = .ok (.agg ((ws.drop off).take r.size).toArray) w := fun ws => by
            have hagg : (isAgg ty).run P w = .ok true w := by rw [run_isAgg hD, hDr, hfs]; rfl
            have hs : (sizeOf ty).run P w = .ok r.size w := by simp [sizeOf, typeInfo, hinf, hsz]
            simp [part, hagg, hs]
          refine ⟨_, _, hpart us, hpart vs, ?_⟩
          have hf : P.fieldsOf ty = fa := by simp [Program.fieldsOf, hu]
          rw [run_equalIn_struct (P := P) w (d + 1) ty _ _ (by rw [hf]; exact hu) hp, hf]
          exact eqF_ok (d := d) hΓ ((hx.drop' off).take' r.size) ((hy.drop' off).take' r.size) hn h
        · cases h
      · cases h
    · cases h
theorem eqF2_ok (hΓ : TabOk P Γ) {eqs : List Nat} (he : ∀ t, t ∈ eqs → EqTyOk P t) {d : Nat} {us vs : List Value} {xs ys : List CV} (hx : All2 (RC E w) us xs) (hy : All2 (RC E w) vs ys) :
    ∀ {fl : List Field} {b : Bool}, (∀ f, f ∈ fl → f.name ≠ "_") → eqF2 Γ eqs xs ys (fl.map fun f => (f.offset, f.type)) = some b → (Op.eqFields (d + 2) us.toArray vs.toArray fl).run P w = .ok b w
  | [], b, _, h => by cases h; simp [Op.eqFields]
  | f :: fl, b, hn, h => by
    simp only [List.map_cons, eqF2] at h
    split at h
    · rename_i c hc
      cases hr : eqF2 Γ eqs xs ys (fl.map fun f => (f.offset, f.type)) with
      | none => rw [hr] at h; cases h
      | some c' =>
        rw [hr] at h
        cases h
        obtain ⟨u, v, h1, h2, h3⟩ := nestB_ok (d := d) hΓ he hx hy hc
        have h4 := eqF2_ok (d := d) hΓ he hx hy (fun g hg => hn g (List.mem_cons_of_mem _ hg)) hr
        rw [Op.eqFields]
        simp only [if_pos (hn f List.mem_cons_self), Sem.run_bind, h1, h2, h3, Result.andThen_ok]
        cases c
        · simp
        · simpa using h4
    · cases h
theorem eqItems_ok (hΓ : TabOk P Γ) {d e : Nat} {us vs : List Value} {xs ys : List CV} (hx : All2 (RC E w) us xs) (hy : All2 (RC E w) vs ys) :
    ∀ {l : List Value} {k : Nat} {b : Bool}, eqF Γ xs ys (idxFs e l k) = some b → (Op.eqItems (d + 1) e 1 us.toArray vs.toArray (List.range' k l.length)).run P w = .ok b w
  | [], k, b, h => by cases h; simp [Op.eqItems]
  | v :: l, k, b, h => by
    simp only [idxFs, eqF] at h
    split at h
    · rename_i c hc
      cases hr : eqF Γ xs ys (idxFs e l (k + 1)) with
      | none => rw [hr] at h; cases h
      | some c' =>
        rw [hr] at h
        cases h
        obtain ⟨u, v, h1, h2, h3⟩ := eqOne_ok (d := d) hΓ hx hy hc
        have h4 := eqItems_ok (d := d) hΓ hx hy hr
        rw [List.length_cons, List.range'_succ]
        simp only [Op.eqItems, Nat.mul_one, Sem.run_bind, h1, h2, h3, Result.andThen_ok]
        cases c
        · simp
        · simpa using h4
    · cases h
theorem eqVal_ok (hΓ : TabOk P Γ) {eqs : List Nat} (he : ∀ t, t ∈ eqs → EqTyOk P t) {op : BinOp} {t yt : TypeId} {x y : Operand} {X : TV} (ho : o.op = .binOp op t x y yt) (h : eqVal Γ eqs op t (st.eval x) (st.eval y) = some X) (hd : dstOk C.n o = true) (hK : K (st.put o.dst X)) : amOp P C o Q K st := by
  have main : ∀ {r : Row} {fs : List (Nat × Nat)} {xs ys : List CV} {b : Bool}, Γ t = some r → r.k = .struct fs → t ∈ eqs → st.eval x = .agg xs → st.eval y = .agg ys → eqF2 Γ eqs xs ys fs = some b → ∀ {E : Env} {a : Act} {w : World}, RelE E C st a w → ∃ us vs, a.eval x = .agg us ∧ a.eval y = .agg vs ∧ (eqGuard op t x y (.agg us) (.agg vs)).run P w = .ok () w ∧ (Op.equalIn 10000 t (.agg us) (.agg vs)).run P w = .ok b w := by
    intro r fs xs ys b hr hk hm hx hy hb E a w hrel
    have hst : EqStOk P t := by
      rcases he t hm with h | ⟨n, e, hu, _⟩
      · exact h
      · have hkk := (hΓ t r hr).k
        rw [hk] at hkk
        obtain ⟨fa', hu', _⟩ := hkk
        rw [hu] at hu'
        cases hu'
    obtain ⟨fa, hu, hn, hp, hg⟩ := hst
    have h1 := hrel.eval x
    have h2 := hrel.eval y
    rw [hx] at h1
    rw [hy] at h2
    obtain ⟨us, h3, h4⟩ := rtA h1
    obtain ⟨vs, h5, h6⟩ := rtA h2
    have hkk := (hΓ t r hr).k
    rw [hk] at hkk
    obtain ⟨fa', hu', hfa⟩ := hkk
    rw [hu] at hu'
    cases hu'
    rw [← hfa] at hb
    have h7 := eqF2_ok (d := 9997) hΓ he h4 h6 hn hb
    refine ⟨_, _, h3, h5, run_eqGuard_agg w op t x y _ _ hg, ?_⟩
    have hf : P.fieldsOf t = fa := by simp [Program.fieldsOf, hu]
    rw [run_equalIn_struct (P := P) w 9999 t us.toArray vs.toArray (by rw [hf]; exact hu) hp, hf]
    exact h7
  have mainA : ∀ {r : Row} {n e : Nat} {xs ys : List CV} {b : Bool}, Γ t = some r → r.k = .arr n e → r.zero.length = n → oneT Γ e = true → t ∈ eqs → st.eval x = .agg xs → st.eval y = .agg ys → eqF Γ xs ys (idxFs e r.zero 0) = some b → ∀ {E : Env} {a : Act} {w : World}, RelE E C st a w → ∃ us vs, a.eval x = .agg us ∧ a.eval y = .agg vs ∧ (eqGuard op t x y (.agg us) (.agg vs)).run P w = .ok () w ∧ (Op.equalIn 10000 t (.agg us) (.agg vs)).run P w = .ok b w := by
    intro r n e xs ys b hr hk hzn h1e hm hx hy hb E a w hrel
    have har : P.eqGuardType P.depth t = false ∧ P.underlying t = some (.array n e) := by
      have hkk := (hΓ t r hr).k
      rw [hk] at hkk
      rcases he t hm with ⟨fa, hu, _⟩ | ⟨n', e', hu, hg⟩
      · have hkk' : P.underlying t = some (.array n e) := hkk
        rw [hu] at hkk'
        cases hkk'
      · exact ⟨hg, hkk⟩
    obtain ⟨hg, hu⟩ := har
    have h1 := hrel.eval x
    have h2 := hrel.eval y
    rw [hx] at h1
    rw [hy] at h2
    obtain ⟨us, h3, h4⟩ := rtA h1
    obtain ⟨vs, h5, h6⟩ := rtA h2
    have h7 := eqItems_ok (d := 9998) hΓ h4 h6 hb
    unfold oneT at h1e
    split at h1e
    · rename_i q hq
      obtain ⟨inf, hi, hsz, _⟩ := (hΓ e q hq).info
      have hc1 : P.cellsOf e = 1 := by
        simp only [decide_eq_true_eq] at h1e
        simp [Program.cellsOf, hi, hsz, h1e]
      refine ⟨_, _, h3, h5, run_eqGuard_agg w op t x y _ _ hg, ?_⟩
      rw [run_equalIn_array (P := P) w 9999 us.toArray vs.toArray hu hi, hc1, List.range_eq_range', ← hzn]
      exact h7
    · cases h1e
  unfold eqVal at h
  split at h
  · rename_i r xs ys hr hx hy
    split at h
    · rename_i fs hfs
      split at h
      · rename_i hm
        cases hb : eqF2 Γ eqs xs ys fs with
        | none => rw [hb] at h; cases h
        | some b =>
          rw [hb] at h
          cases h
          refine amOp_pure hd hK fun E a w hrel => ⟨.bool b, ?_, .v _ rfl⟩
          obtain ⟨us, vs, h1, h2, h3, h4⟩ := main hr hfs (by simpa using hm) hx hy hb hrel
          unfold execOp
          simp only [ho, h1, h2]
          rw [Sem.run_bind, Sem.run_bind, h3, Result.andThen_ok, run_eql_struct, h4]
          rfl
      · cases h
    · rename_i n e hfs
      split at h
      · rename_i hm
        obtain ⟨hm, hzn, h1e⟩ := hm
        cases hb : eqF Γ xs ys (idxFs e r.zero 0) with
        | none => rw [hb] at h; cases h
        | some b =>
          rw [hb] at h
          cases h
          refine amOp_pure hd hK fun E a w hrel => ⟨.bool b, ?_, .v _ rfl⟩
          obtain ⟨us, vs, h1, h2, h3, h4⟩ := mainA hr hfs hzn h1e (by simpa using hm) hx hy hb hrel
          unfold execOp
          simp only [ho, h1, h2]
          rw [Sem.run_bind, Sem.run_bind, h3, Result.andThen_ok, run_eql_struct, h4]
          rfl
      · cases h
    · cases h
  · rename_i r xs ys hr hx hy
    split at h
    · rename_i fs hfs
      split at h
      · rename_i hm
        cases hb : eqF2 Γ eqs xs ys fs with
        | none => rw [hb] at h; cases h
        | some b =>
          rw [hb] at h
          cases h
          refine amOp_pure hd hK fun E a w hrel => ⟨.bool (!b), ?_, .v _ rfl⟩
          obtain ⟨us, vs, h1, h2, h3, h4⟩ := main hr hfs (by simpa using hm) hx hy hb hrel
          unfold execOp
          simp only [ho, h1, h2]
          rw [Sem.run_bind, Sem.run_bind, h3, Result.andThen_ok, run_neq_struct, h4]
          rfl
      · cases h
    · rename_i n e hfs
      split at h
      · rename_i hm
        obtain ⟨hm, hzn, h1e⟩ := hm
        cases hb : eqF Γ xs ys (idxFs e r.zero 0) with
        | none => rw [hb] at h; cases h
        | some b =>
          rw [hb] at h
          cases h
          refine amOp_pure hd hK fun E a w hrel => ⟨.bool (!b), ?_, .v _ rfl⟩
          obtain ⟨us, vs, h1, h2, h3, h4⟩ := mainA hr hfs hzn h1e (by simpa using hm) hx hy hb hrel
          unfold execOp
          simp only [ho, h1, h2]
          rw [Sem.run_bind, Sem.run_bind, h3, Result.andThen_ok, run_neq_struct, h4]
          rfl
      · cases h
    · cases h
  · cases h
end
attribute [go_sem] ifpPrep assertPrep eqOne eqF eqF2 nestB eqVal oneT idxFs
end Go.Proofs.YtaolgdpkcbfocaaDoorA
