/- The calculus: a region that draws its order and makes a variable beside a call that makes rows: the variable's name is set aside ahead of the region. -/
import Derived.Test.YthnpbfljoghbmaaAmRet
import Derived.Test.YthnpbfljoghbmaaAmDraw2
namespace Go.Proofs.YthnpbfljoghbmaaA
set_option autoImplicit false
set_option linter.unusedVariables false
def refCV (b : Nat) : CV → Bool
  | .own i _ _ => i == b
  | .ptr i _ => i == b
  | .ifp _ i _ => i == b
  | .ep i _ _ => i == b
  | .mp i => i == b
  | .sq _ i => i == b
  | _ => false
def refTV1 (b : Nat) : TV → Bool
  | .c x => refCV b x
  | .agg xs => xs.any (refCV b)
  | .tup _ => false
def refTV (b : Nat) : TV → Bool
  | .tup xs => xs.any (refTV1 b)
  | .c x => refCV b x
  | .agg xs => xs.any (refCV b)
def refObj (b : Nat) : AObj → Bool
  | .cells xs => xs.any (refCV b)
  | .nest _ _ xs => xs.any fun x => x.any fun c => match c with
    | .c y => refCV b y
    | _ => false
  | _ => false
/-- Nothing in the state speaks of this name. -/
structure Clean (b : Nat) (st : St) : Prop where
  tmps : ∀ t x, look t st.tmps = some x → refTV b x = false
  objs : ∀ id o, st.obj id = some o → id ≠ b ∧ refObj b o = false
  nx : b < st.next
section
variable {E : Env} {w : World} {b : Nat}
theorem rc_ref {v : Value} {x : CV} (h : RC E w v x) (hb : E.at_ b = none) : refCV b x = false := by
  have key : ∀ i B, E.at_ i = some B → (i == b) = false := fun i B hi => by
    rw [beq_eq_false_iff_ne]
    intro e
    rw [e, hb] at hi
    cases hi
  cases x with
  | own i lo len => rcases h with ⟨h1, _⟩ | ⟨g, sz, cap, o, h1, _⟩ <;> exact key _ _ h1
  | ptr i off => obtain ⟨g, base, h1, _⟩ := h; exact key _ _ h1
  | ifp ty i off => obtain ⟨g, base, h1, _⟩ := h; exact key _ _ h1
  | ep i j k => obtain ⟨g, sz, cap, h1, _⟩ := h; exact key _ _ h1
  | mp i => obtain ⟨g, h1, _⟩ := h; exact key _ _ h1
  | sq f i => obtain ⟨g, gm, _, _, _, h1⟩ := h; exact key _ _ h1
  | _ => rfl
theorem all2_ref {vs : List Value} {xs : List CV} (h : All2 (RC E w) vs xs) (hb : E.at_ b = none) : xs.any (refCV b) = false := by
  rw [List.any_eq_false]
  intro x hx
  obtain ⟨i, hi⟩ := List.getElem?_of_mem hx
  have hl := h.length
  have hi' := (List.getElem?_eq_some_iff.1 hi).1
  obtain ⟨v, _, h2⟩ := h.get hi
  rw [rc_ref h2 hb]
  simp
theorem rt1_ref {v : Value} {x : TV} (h : RT1 E w v x) (hb : E.at_ b = none) : refTV1 b x = false := by
  cases x with
  | c x => exact rc_ref h hb
  | agg xs => obtain ⟨vs, _, h2⟩ := h; exact all2_ref h2 hb
  | tup xs => rfl
theorem rt_ref {v : Value} {x : TV} (h : RT E w v x) (hb : E.at_ b = none) : refTV b x = false := by
  cases x with
  | c x => exact rc_ref (rtC h) hb
  | agg xs => obtain ⟨vs, _, h2⟩ := h; exact all2_ref h2 hb
  | tup xs =>
    obtain ⟨vs, _, h2⟩ := h
    show xs.any (refTV1 b) = false
    rw [List.any_eq_false]
    intro x hx
    obtain ⟨i, hi⟩ := List.getElem?_of_mem hx
    obtain ⟨v, _, h3⟩ := h2.get hi
    rw [rt1_ref h3 hb]
    simp
theorem robj_ref {id : Nat} {o : AObj} (h : RObj E w id o) (hb : E.at_ b = none) : id ≠ b ∧ refObj b o = false := by
  have key : ∀ B, E.at_ id = some B → id ≠ b := fun B hi e => by rw [e, hb] at hi; cases hi
  cases o with
  | cells xs =>
    obtain ⟨g, base, cur, ty, h1, h2, h3, h4⟩ := h
    refine ⟨key _ h1, ?_⟩
    show xs.any (refCV b) = false
    rw [List.any_eq_false]
    intro x hx
    obtain ⟨i, hi⟩ := List.getElem?_of_mem hx
    obtain ⟨_, v, _, _, h5⟩ := h4 i x hi
    rw [rc_ref h5 hb]
    simp
  | arr ty sz xs => rcases h with ⟨h1, _⟩ | ⟨g, cap, cur, h1, _⟩ <;> exact ⟨key _ h1, rfl⟩
  | mp d es => obtain ⟨g, arr, clock, h1, _⟩ := h; exact ⟨key _ h1, rfl⟩
  | nest ty sz xs =>
    rcases h with ⟨h1, rfl⟩ | ⟨g, cap, cur, h1, h2, h3, h4, h5, h6, h7, h8, h9⟩
    · exact ⟨key _ h1, rfl⟩
    refine ⟨key _ h1, ?_⟩
    show (xs.any fun x => x.any fun c => match c with
      | .c y => refCV b y
      | _ => false) = false
    rw [List.any_eq_false]
    intro x hx
    rw [Bool.not_eq_true, List.any_eq_false]
    intro c hc
    cases c with
    | t t => simp
    | row _ _ _ => simp
    | c y =>
      obtain ⟨i, hi⟩ := List.getElem?_of_mem hx
      obtain ⟨j, hj⟩ := List.getElem?_of_mem hc
      obtain ⟨v, _, h10⟩ := h8 i x hi j _ hj
      simp only
      rw [rc_ref h10.2 hb]
      simp
end
section
variable {P : Program} {Γ : Nat → Option Row} {C : Ctx} {st : St} {E : Env} {a : Act} {w : World} {b : Nat}
def St.up (st : St) : St := ⟨st.tmps, st.objs, st.next + 1⟩
theorem RelE.up (h : RelE E C st a w) : RelE E C st.up a w := { h with next := fun id hid => h.next id (by simp only [St.up] at hid; omega), npos := Nat.succ_pos _ }
theorem RelE.clean (h : RelE E C st a w) : Clean st.next st.up where
  tmps := fun t x hx => rt_ref (h.tmps t x hx) (h.next _ (Nat.le_refl _))
  objs := fun id o ho => robj_ref (h.objs id o ho) (h.next _ (Nat.le_refl _))
  nx := Nat.lt_succ_self _
/-- The name set aside becomes a new block's. -/
def Env.put (E : Env) (b g : Nat) : Env := ⟨fun k => if k = b then some (.cell g 0) else E.at_ k, fun x o => if x = g then some b else if E.own x o = some b then none else E.own x o⟩
theorem put_none {g x o : Nat} (h : E.own x o = none) (hx : x ≠ g) : (E.put b g).own x o = none := by
  simp only [Env.put]
  rw [if_neg hx, h]
  rfl
theorem put_own {g x o i : Nat} (h : E.own x o = some i) (hx : x ≠ g) (hi : i ≠ b) : (E.put b g).own x o = some i := by
  simp only [Env.put]
  rw [if_neg hx, h, if_neg (by simpa using hi)]
theorem put_at {g i : Nat} (h : (i == b) = false) : (E.put b g).at_ i = E.at_ i := by
  simp only [Env.put]
  rw [if_neg (by simpa using h)]
theorem RO.put {w' : World} {g : Nat} (hw : ∀ x : Nat, x ≠ g → x < w.heap.size → w'.heap[x]? = w.heap[x]?) (hg : w.heap.size ≤ g) {v : Value} {t : Tree} (h : RO w (fun x o => E.own x o = none) v t) : RO w' (fun x o => (E.put b g).own x o = none) v t :=
  h.mono fun x o u h1 h2 => by
    have hx := cell_lt h2
    exact ⟨put_none h1 (by omega), by rw [World.cell?_of_block (w := w) (hw x (by omega) hx)]; exact h2⟩
theorem RC.put {w' : World} {g : Nat} (hw : ∀ x : Nat, x ≠ g → x < w.heap.size → w'.heap[x]? = w.heap[x]?) (hg : w.heap.size ≤ g) {v : Value} {x : CV} (h : RC E w v x) (hx : refCV b x = false) : RC (E.put b g) w' v x := by
  have key : ∀ y o u, E.own y o = none → w.cell? ⟨y, o, none⟩ = some u → (E.put b g).own y o = none ∧ w'.cell? ⟨y, o, none⟩ = some u := fun y o u h1 h2 => by
    have hy := cell_lt h2
    exact ⟨put_none h1 (by omega), by rw [World.cell?_of_block (w := w) (hw y (by omega) hy)]; exact h2⟩
  cases x with
  | t x => exact RO.put hw hg h
  | own i lo len =>
    rcases h with ⟨h1, h2⟩ | ⟨g', sz, cap, o, h1, h2⟩
    · exact .inl ⟨(put_at hx).trans h1, h2⟩
    · exact .inr ⟨g', sz, cap, o, (put_at hx).trans h1, h2⟩
  | ptr i off => obtain ⟨g', base, h1, h2⟩ := h; exact ⟨g', base, (put_at hx).trans h1, h2⟩
  | ifp ty i off => obtain ⟨g', base, h1, h2⟩ := h; exact ⟨g', base, (put_at hx).trans h1, h2⟩
  | ep i j k => obtain ⟨g', sz, cap, h1, h2⟩ := h; exact ⟨g', sz, cap, (put_at hx).trans h1, h2⟩
  | rp xs =>
    obtain ⟨g', o, h1, h2⟩ := h
    refine ⟨g', o, h1, fun j t ht => ?_⟩
    obtain ⟨h3, u, h4, h5⟩ := h2 j t ht
    exact ⟨(key _ _ _ h3 h4).1, u, (key _ _ _ h3 h4).2, RO.put hw hg h5⟩
  | irp ty xs =>
    obtain ⟨g', o, h1, h2⟩ := h
    refine ⟨g', o, h1, fun j t ht => ?_⟩
    obtain ⟨h3, u, h4, h5⟩ := h2 j t ht
    exact ⟨(key _ _ _ h3 h4).1, u, (key _ _ _ h3 h4).2, RO.put hw hg h5⟩
  | gv g' o => obtain ⟨h1, h2, h3⟩ := h; exact ⟨(key _ _ _ h1 h2).1, (key _ _ _ h1 h2).2, h3⟩
  | mp i => obtain ⟨g', h1, h2⟩ := h; exact ⟨g', (put_at hx).trans h1, h2⟩
  | sq f i => obtain ⟨g', gm, h1, h2, h3, h4⟩ := h; exact ⟨g', gm, h1, (key _ _ _ h2 h3).1, (key _ _ _ h2 h3).2, (put_at hx).trans h4⟩
  | junk => trivial
theorem all2_put {w' : World} {g : Nat} (hw : ∀ x : Nat, x ≠ g → x < w.heap.size → w'.heap[x]? = w.heap[x]?) (hg : w.heap.size ≤ g) : ∀ {vs : List Value} {xs : List CV}, All2 (RC E w) vs xs → xs.any (refCV b) = false → All2 (RC (E.put b g) w') vs xs
  | [], [], _, _ => trivial
  | v :: vs, x :: xs, h, hx => by
    simp only [List.any_cons, Bool.or_eq_false_iff] at hx
    exact ⟨RC.put hw hg h.1 hx.1, all2_put hw hg h.2 hx.2⟩
  | [], _ :: _, h, _ => h.elim
  | _ :: _, [], h, _ => h.elim
theorem RT1.put {w' : World} {g : Nat} (hw : ∀ x : Nat, x ≠ g → x < w.heap.size → w'.heap[x]? = w.heap[x]?) (hg : w.heap.size ≤ g) {v : Value} {x : TV} (h : RT1 E w v x) (hx : refTV1 b x = false) : RT1 (E.put b g) w' v x := by
  cases x with
  | c x => exact RC.put hw hg h hx
  | agg xs => obtain ⟨vs, h1, h2⟩ := h; exact ⟨vs, h1, all2_put hw hg h2 hx⟩
  | tup xs => exact h.elim
theorem all2_put1 {w' : World} {g : Nat} (hw : ∀ x : Nat, x ≠ g → x < w.heap.size → w'.heap[x]? = w.heap[x]?) (hg : w.heap.size ≤ g) : ∀ {vs : List Value} {xs : List TV}, All2 (RT1 E w) vs xs → xs.any (refTV1 b) = false → All2 (RT1 (E.put b g) w') vs xs
  | [], [], _, _ => trivial
  | v :: vs, x :: xs, h, hx => by
    simp only [List.any_cons, Bool.or_eq_false_iff] at hx
    exact ⟨RT1.put hw hg h.1 hx.1, all2_put1 hw hg h.2 hx.2⟩
  | [], _ :: _, h, _ => h.elim
  | _ :: _, [], h, _ => h.elim
theorem RT.put {w' : World} {g : Nat} (hw : ∀ x : Nat, x ≠ g → x < w.heap.size → w'.heap[x]? = w.heap[x]?) (hg : w.heap.size ≤ g) {v : Value} {x : TV} (h : RT E w v x) (hx : refTV b x = false) : RT (E.put b g) w' v x := by
  cases x with
  | c x => exact RC.put hw hg (rtC h) hx
  | agg xs => obtain ⟨vs, h1, h2⟩ := h; exact ⟨vs, h1, all2_put hw hg h2 hx⟩
  | tup xs => obtain ⟨vs, h1, h2⟩ := h; exact ⟨vs, h1, all2_put1 hw hg h2 hx⟩
theorem RObj.put {w' : World} {g : Nat} (hfr : ∀ x o, w.heap.size ≤ x → E.own x o = none) (hw : ∀ x : Nat, x ≠ g → x < w.heap.size → w'.heap[x]? = w.heap[x]?) (hg : w.heap.size ≤ g) {id : Nat} {o : AObj} (h : RObj E w id o) (hid : id ≠ b) (hx : refObj b o = false) : RObj (E.put b g) w' id o := by
  have hid' : (id == b) = false := by simpa using hid
  cases o with
  | cells xs =>
    obtain ⟨g', base, cur, ty, h1, h2, h3, h4⟩ := h
    have hlt := (Array.getElem?_eq_some_iff.1 h2).1
    refine ⟨g', base, cur, ty, (put_at hid').trans h1, (hw g' (by omega) hlt).trans h2, h3, fun j x hj => ?_⟩
    obtain ⟨h5, v, h6, h7, h8⟩ := h4 j x hj
    have hx' : refCV b x = false := by
      have := List.any_eq_false.1 hx x (List.mem_of_getElem? hj)
      simpa using this
    exact ⟨put_own h5 (by omega) hid, v, h6, h7, RC.put hw hg h8 hx'⟩
  | arr ty sz xs =>
    rcases h with ⟨h1, h2⟩ | ⟨g', cap, cur, h1, h2, h3, h4, h4', h5, h6, h7⟩
    · exact .inl ⟨(put_at hid').trans h1, h2⟩
    have hlt := (Array.getElem?_eq_some_iff.1 h2).1
    refine .inr ⟨g', cap, cur, (put_at hid').trans h1, (hw g' (by omega) hlt).trans h2, h3, h4, h4', fun o => put_own (h5 o) (by omega) hid, h6, fun i x hi j t ht => ?_⟩
    obtain ⟨v, h8, h9⟩ := h7 i x hi j t ht
    exact ⟨v, h8, RO.put hw hg h9⟩
  | mp d es =>
    obtain ⟨g', arr, clock, h1, h2, h3, h4, h5⟩ := h
    have hlt := (Array.getElem?_eq_some_iff.1 h2).1
    exact ⟨g', arr, clock, (put_at hid').trans h1, (hw g' (by omega) hlt).trans h2, h3, fun o => put_own (h4 o) (by omega) hid, h5⟩
  | nest ty sz xs =>
    have := RNest.mono (f := fun y => y) (E' := E.put b g) (w' := w') (id' := id) (fun B hB => (put_at hid').trans hB) (fun x o ho => put_own ho (fun e => by
        have := (hfr x o)
        rw [e] at ho
        rw [hfr g o (by omega)] at ho
        cases ho) hid) (fun g' cur t hg ho => ⟨cur, (hw g' (by have := (Array.getElem?_eq_some_iff.1 hg).1; omega) (Array.getElem?_eq_some_iff.1 hg).1).trans hg, rfl, fun _ _ h => h⟩) (fun v t hv => RO.put hw hg hv) (fun x hx' c hc v y e hy => RC.put hw hg hy (by
        have h1 := List.any_eq_false.1 hx x hx'
        rw [Bool.not_eq_true] at h1
        have h2 := List.any_eq_false.1 h1 c hc
        rw [e] at h2
        simpa using h2)) h
    exact (show (xs.map fun x => x.map (NC.rn fun y => y)) = xs from rn_id xs) ▸ this
theorem RelE.alloc_at (h : RelE E C st a w) (hc : Clean b st) (hb : C.n0 ≤ b) (hb0 : b ≠ 0) {zs : List Value} (t : TypeId) (hz : ∀ v, v ∈ zs → v.oneCell' = true) :
    RelE (E.put b w.heap.size) C (st.setObj b (.cells (zs.map fun v => .t (.v v)))) a (w.alloc (.cells zs.toArray t)) := by
  have hw : ∀ x : Nat, x ≠ w.heap.size → x < w.heap.size → (w.alloc (.cells zs.toArray t)).heap[x]? = w.heap[x]? := fun x _ hx => Go.heap_alloc_old w _ x hx
  refine ⟨fun s x hx => RT.put hw (Nat.le_refl _) (h.tmps s x hx) (hc.tmps s x hx), h.size, h.defers, fun id o ho => ?_, fun id hid => ?_, ?_, h.npos, h.dom, ?_⟩
  · simp only [St.setObj, St.obj, look_upd] at ho
    split at ho
    · rename_i e
      subst e
      cases ho
      refine ⟨w.heap.size, 0, zs.toArray, t, by simp [Env.put], Go.heap_alloc_new w _, by simp, fun j x hj => ?_⟩
      rw [List.getElem?_map] at hj
      cases hv : zs[j]? with
      | none => rw [hv] at hj; cases hj
      | some v =>
        rw [hv] at hj
        cases hj
        have h1 := hz v (List.mem_of_getElem? hv)
        exact ⟨by simp [Env.put], v, by simpa using hv, h1, .v v h1⟩
    · rename_i e
      obtain ⟨h1, h2⟩ := hc.objs id o ho
      exact RObj.put h.fc.fresh hw (Nat.le_refl _) (h.objs id o ho) h1 h2
  · have hlt := hc.nx
    have hid' : st.next ≤ id := hid
    exact (put_at (by simp; omega)).trans (h.next id hid')
  · exact (put_at (by simp; omega)).trans h.zero
  · have hf := h.fc
    refine ⟨hf.pre, hf.os, hf.tape, hf.output, Nat.le_trans hf.size (by simp), fun id B hB => ?_, fun x hx => ?_, fun x o hx hk => ?_, fun x o hx => ?_, fun x o he => ?_⟩
    · have : id ≠ b := fun e => by rw [e, h.dom b hb] at hB; cases hB
      exact (put_at (by simpa using this)).trans (hf.at_ id B hB)
    · have := hf.blk x hx
      rw [hw x (by have := hf.size; omega) (by have := hf.size; omega)]
      exact this
    · have h1 := hf.keep x o hx hk
      have hx' : x ≠ w.heap.size := by have := hf.size; omega
      rcases hk with hk | hk
      · rw [hk] at h1 ⊢
        exact put_none h1 hx'
      · rw [hk] at h1 ⊢
        exact put_own h1 hx' (fun e => hb0 e.symm)
    · have hs : (w.alloc (.cells zs.toArray t)).heap.size = w.heap.size + 1 := by simp
      rw [hs] at hx
      exact put_none (hf.fresh x o (by omega)) (by omega)
    · simp only [Env.put] at he
      split at he
      · exact absurd (Option.some.inj he) hb0
      split at he
      · cases he
      · exact hf.pos x o he
end
/-! ### The region -/
def isAl (o : Oper) : Bool := match o.op with
  | .alloc _ => true
  | _ => false
section
variable {P : Program} {Γ : Nat → Option Row} {kn : Kn} {C : Ctx} {ops : Array Oper} {b : Nat}
def OpF (P : Program) (C : Ctx) (ops : Array Oper) (b : Nat) (o : Oper) (it : Item) (s0 : St) : Prop :=
  ∀ st : St, (∀ t, t ∈ uses ops.toList o → look t st.tmps = look t s0.tmps) → (∀ id, id ∈ it.rd → st.obj id = s0.obj id) → (it.al ≠ 0 → st.next = s0.next) → (isAl o = true → Clean b st) →
    ∀ (Q : Exit → St → Prop) a w, Rel C st a w → ∀ next : Act → World → Prop, (∀ a' w', Rel C (app o it st) a' w' → next a' w') →
      if Region.wanted o (yielded ops a.tmps) then o.wp P a w next (liftQ C Q) else next (a.put o.dst undef) w
theorem OpF.eqv {o : Oper} {it : Item} {s s' : St} (h : OpF P C ops b o it s) (he : EqV s s') : OpF P C ops b o it s' :=
  fun st h1 h2 h3 => h st (fun t ht => (h1 t ht).trans (he.tmps t).symm) (fun id hid => (h2 id hid).trans (he.objs id).symm) fun h0 => (h3 h0).trans he.next.symm
def TextF (P : Program) (C : Ctx) (ops : Array Oper) (b : Nat) : Seg → St → Prop
  | [], _ => True
  | (i, o, it) :: r, s => OpF P C ops b o it s ∧ TextF P C ops b r (app o it s)
theorem TextF.eqv : ∀ {r : Seg} {s s' : St}, TextF P C ops b r s → EqV s s' → TextF P C ops b r s' ∧ EqV (fin r s) (fin r s')
  | [], s, s', _, he => ⟨trivial, he⟩
  | (i, o, it) :: r, s, s', h, he => by
    have h1 := TextF.eqv h.2 (app_eqv (o := o) (it := it) he)
    exact ⟨⟨h.1.eqv he, h1.1⟩, h1.2⟩
theorem swapF {i j : Nat} {o o' : Oper} {it it' : Item} {r : Seg} {s : St} (ha : Apart ops.toList (o, it) (o', it')) (h : TextF P C ops b ((i, o, it) :: (j, o', it') :: r) s) :
    TextF P C ops b ((j, o', it') :: (i, o, it) :: r) s ∧ EqV (fin ((i, o, it) :: (j, o', it') :: r) s) (fin ((j, o', it') :: (i, o, it) :: r) s) := by
  obtain ⟨h1, h2, h3⟩ := h
  have hb : OpF P C ops b o' it' s := fun st g1 g2 g3 => h2 st
    (fun t ht => by rw [g1 t ht, app_tmps, if_neg (by rw [ha.ab t ht]; simp)])
    (fun id hid => by rw [g2 id hid, app_obj_ne fun hw => (ha.wr id hw).1 hid])
    (fun h0 => by rw [g3 h0]; have := ha.al; simp only [app]; simp only at this; omega)
  have hc : OpF P C ops b o it (app o' it' s) := fun st g1 g2 g3 => h1 st
    (fun t ht => by rw [g1 t ht, app_tmps, if_neg (by rw [ha.ba t ht]; simp)])
    (fun id hid => by rw [g2 id hid, app_obj_ne fun hw => ha.rw id hw hid])
    (fun h0 => by rw [g3 h0]; have := ha.al; simp only [app]; simp only at this; omega)
  have he : EqV (app o' it' (app o it s)) (app o it (app o' it' s)) := by
    refine ⟨fun t => ?_, fun id => ?_, by simp only [app]; omega⟩
    · rw [app_tmps, app_tmps, app_tmps, app_tmps]
      have := ha.dst t
      by_cases x : hitD o.dst t = true <;> by_cases y : hitD o'.dst t = true <;> simp [x, y] at this ⊢
    · by_cases x : id ∈ wrIds it
      · have hx := (ha.wr id x).2
        rw [app_obj_ne hx, app_obj, app_obj, app_obj_ne hx]
      · rw [app_obj_ne (o := o) (st := app o' it' s) x, app_obj o' it' (app o it s) id, app_obj o' it' s id, app_obj_ne x]
  have h4 := TextF.eqv h3 he
  exact ⟨⟨hb, hc, h4.1⟩, h4.2⟩
theorem frontF {j : Nat} {o' : Oper} {it' : Item} {r2 : Seg} : ∀ {r1 : Seg} {s : St}, (∀ p, p ∈ r1 → Apart ops.toList p.2 (o', it')) → TextF P C ops b (r1 ++ (j, o', it') :: r2) s →
    TextF P C ops b ((j, o', it') :: (r1 ++ r2)) s ∧ EqV (fin (r1 ++ (j, o', it') :: r2) s) (fin ((j, o', it') :: (r1 ++ r2)) s)
  | [], s, _, h => ⟨h, EqV.refl _⟩
  | (i, o, it) :: r1, s, ha, h => by
    obtain ⟨h1, h2⟩ := frontF (r1 := r1) (fun p hp => ha p (List.mem_cons_of_mem _ hp)) h.2
    obtain ⟨h3, h4⟩ := swapF (ops := ops) (ha (i, o, it) List.mem_cons_self) (show TextF P C ops b ((i, o, it) :: (j, o', it') :: (r1 ++ r2)) s from ⟨h.1, h1⟩)
    exact ⟨h3, h2.trans h4⟩
/-- What one operation yields does not speak of the name set aside. -/
def cleanI (b : Nat) (it : Item) : Bool := !refTV b it.x && it.wr.all fun q => !(q.1 == b) && !refObj b q.2
theorem Clean.app {o : Oper} {it : Item} {st : St} (h : Clean b st) (hi : cleanI b it = true) : Clean b (app o it st) := by
  simp only [cleanI, Bool.and_eq_true, Bool.not_eq_true', List.all_eq_true] at hi
  refine ⟨fun t x hx => ?_, fun id ob ho => ?_, by have := h.nx; simp only [Go.Proofs.YthnpbfljoghbmaaA.app]; omega⟩
  · rw [app_tmps] at hx
    split at hx
    · cases hx; exact hi.1
    · exact h.tmps t x hx
  · rw [app_obj] at ho
    split at ho
    · rename_i x hl
      cases ho
      have := hi.2 _ (look_mem hl)
      exact ⟨by simpa using this.1, this.2⟩
    · split at ho
      · cases ho
      · exact h.objs id ob ho
theorem draw_anyF (hlex : ∀ (i : Nat) o, ops[i]? = some o → ∀ e, e ∈ o.after → Region.binds .any e = true → e.on < i) {Q : Exit → St → Prop} : ∀ (fuel : Nat) (listed : Array Bool) (seg : Seg) (st : St) (a : Act) (w : World), seg.length ≤ fuel → listed.size = ops.size → Left ops seg listed → TextF P C ops b seg st →
    (∀ (j : Nat) o, ops[j]? = some o → isAl o = true → listed.getD j true = false → Clean b st) →
    (∀ p, p ∈ seg → ∀ (j : Nat) o, ops[j]? = some o → isAl o = true → j ≠ p.1 → ¬ Dep ops j p.1 → cleanI b p.2.2 = true) →
    Rel C st a w → (∀ st', EqV (fin seg st) st' → Q .normal st') → wpAny P .any ops (liftQ C Q) fuel listed a w := by
  intro fuel
  induction fuel with
  | zero =>
    intro listed seg st a w hl hsz hL hT hC hI hr hQ
    have : seg = [] := List.eq_nil_of_length_eq_zero (by omega)
    subst this
    refine ⟨?_, st, hQ st (EqV.refl _), hr⟩
    rw [List.eq_nil_iff_forall_not_mem]
    intro i hi
    rw [mem_ready] at hi
    obtain ⟨h0, o, ho, _⟩ := hi
    obtain ⟨it, hm⟩ := hL.all i o ho h0
    cases hm
  | succ fuel ih =>
    intro listed seg st a w hl hsz hL hT hC hI hr hQ
    refine ⟨fun hnil => ?_, fun i hi => ?_⟩
    · cases seg with
      | nil => exact ⟨st, hQ st (EqV.refl _), hr⟩
      | cons p r =>
        exfalso
        obtain ⟨h1, h2⟩ := hL.mem p List.mem_cons_self
        have hp : p.1 ∈ Region.ready .any ops listed := by
          rw [mem_ready]
          refine ⟨h2, p.2.1, h1, fun e he hb => ?_⟩
          have hlt := hlex p.1 p.2.1 h1 e he hb
          rcases hx : listed.getD e.on false with _ | _
          · exfalso
            have hel : e.on < listed.size := by
              have := (Array.getElem?_eq_some_iff.1 h1).1
              omega
            have hx' : listed.getD e.on true = false := by
              rw [Array.getD_eq_getD_getElem?, Array.getElem?_eq_getElem hel] at hx ⊢
              exact hx
            have hel' : e.on < ops.size := by omega
            obtain ⟨it, hm⟩ := hL.all e.on _ (Array.getElem?_eq_getElem hel') hx'
            have hasc := hL.asc
            rw [List.pairwise_cons] at hasc
            rcases List.mem_cons.1 hm with e1 | e1
            · rw [← e1] at hlt; simp at hlt
            · have := hasc.1 _ e1; simp only at this; omega
          · rfl
        rw [hnil] at hp
        cases hp
    · have hi' := hi
      rw [mem_ready] at hi
      obtain ⟨h0, o, ho, hdep⟩ := hi
      obtain ⟨it, hm⟩ := hL.all i o ho h0
      have hIi := hI _ hm
      obtain ⟨r1, r2, hseg⟩ := List.append_of_mem hm
      subst hseg
      have hlist : ∀ k, Dep ops k i → listed.getD k false = true := fun k hdp => by
        cases hdp with
        | one j o' h he =>
          obtain ⟨e, g1, g2, g3⟩ := he
          rw [ho] at h; cases h
          rw [← g3]; exact hdep e g1 g2
        | more j o' m h he hm =>
          obtain ⟨e, g1, g2, g3⟩ := he
          rw [ho] at h; cases h
          exact hm.listed hL.closed (by rw [← g3]; exact hdep e g1 g2)
      have hno : ∀ k, listed.getD k true = false → ¬ Dep ops k i := fun k h3 hdp => by
        have h2 := hlist k hdp
        rw [Array.getD_eq_getD_getElem?] at h2 h3
        cases hg : listed[k]? with
        | none => rw [hg] at h2; cases h2
        | some b => rw [hg] at h2 h3; simp at h2 h3; rw [h2] at h3; cases h3
      have hap : ∀ p, p ∈ r1 → Apart ops.toList p.2 (o, it) := fun p hp => by
        have h1 := hL.apart
        rw [List.pairwise_append] at h1
        exact h1.2.2 p hp _ List.mem_cons_self (hno _ (hL.mem p (List.mem_append_left _ hp)).2)
      obtain ⟨hT1, hE⟩ := frontF hap hT
      unfold wpOp
      rw [ho]
      have hgo := hT1.1 st (fun _ _ => rfl) (fun _ _ => rfl) (fun _ => rfl) (fun hal => hC i o ho hal h0) Q a w hr (wpAny P .any ops (liftQ C Q) fuel (listed.setIfInBounds i true)) fun a' w' hr' => by
        refine ih _ (r1 ++ r2) _ a' w' (by simp at hl ⊢; omega) (by simpa using hsz) ⟨fun p hp => ?_, fun k ok hk hlk => ?_, ?_, ?_, fun k ok hk hlk e he hb => ?_⟩ hT1.2 (fun j oj hj hal hlj => ?_) (fun p hp => ?_) hr' fun st' he' => hQ st' (hE.trans he')
        · have hp' : p ∈ r1 ++ (i, o, it) :: r2 := by
            rcases List.mem_append.1 hp with h | h
            · exact List.mem_append_left _ h
            · exact List.mem_append_right _ (List.mem_cons_of_mem _ h)
          obtain ⟨h1, h2⟩ := hL.mem p hp'
          refine ⟨h1, ?_⟩
          have hne : i ≠ p.1 := by
            have hasc := hL.asc
            rw [List.pairwise_append, List.pairwise_cons] at hasc
            rcases List.mem_append.1 hp with h | h
            · have := hasc.2.2 p h _ List.mem_cons_self; simp only at this; omega
            · have := hasc.2.1.1 p h; simp only at this; omega
          rw [getD_set_ne true hne]
          exact h2
        · have hne : i ≠ k := by
            intro e
            subst e
            have hlt : i < listed.size := by
              have := (Array.getElem?_eq_some_iff.1 hk).1
              omega
            simp [hlt] at hlk
          rw [getD_set_ne true hne] at hlk
          obtain ⟨it2, hm2⟩ := hL.all k ok hk hlk
          refine ⟨it2, ?_⟩
          rcases List.mem_append.1 hm2 with h | h
          · exact List.mem_append_left _ h
          · rcases List.mem_cons.1 h with e | h
            · cases e; exact absurd rfl hne
            · exact List.mem_append_right _ h
        · have hasc := hL.asc
          rw [List.pairwise_append, List.pairwise_cons] at hasc
          rw [List.pairwise_append]
          exact ⟨hasc.1, hasc.2.1.2, fun p hp q hq => hasc.2.2 p hp q (List.mem_cons_of_mem _ hq)⟩
        · have hasc := hL.apart
          rw [List.pairwise_append, List.pairwise_cons] at hasc
          rw [List.pairwise_append]
          exact ⟨hasc.1, hasc.2.1.2, fun p hp q hq => hasc.2.2 p hp q (List.mem_cons_of_mem _ hq)⟩
        · have hup : ∀ m, listed.getD m false = true → (listed.setIfInBounds i true).getD m false = true := fun m hm => by
            by_cases hmi : i = m
            · subst hmi
              have hlt : i < listed.size := by
                rw [Array.getD_eq_getD_getElem?] at hm
                cases hg : listed[i]? with
                | none => rw [hg] at hm; cases hm
                | some b => exact (Array.getElem?_eq_some_iff.1 hg).1
              simp [hlt]
            · rw [getD_set_ne false hmi]; exact hm
          by_cases hki : i = k
          · subst hki
            rw [ho] at hk; cases hk
            exact hup _ (hdep e he hb)
          · rw [getD_set_ne false hki] at hlk
            exact hup _ (hL.closed k ok hk hlk e he hb)
        · have hne : i ≠ j := by
            intro e
            subst e
            have hlt : i < listed.size := by
              have := (Array.getElem?_eq_some_iff.1 hj).1
              omega
            simp [hlt] at hlj
          rw [getD_set_ne true hne] at hlj
          exact (hC j oj hj hal hlj).app (hIi j oj hj hal (fun e => hne e.symm) (hno j hlj))
        · refine hI p ?_
          rcases List.mem_append.1 hp with h | h
          · exact List.mem_append_left _ h
          · exact List.mem_append_right _ (List.mem_cons_of_mem _ h)
      by_cases hw : Region.wanted o (yielded ops a.tmps) = true
      · rw [if_pos hw] at hgo
        simp only [hw, if_true]
        exact .inl hgo
      · rw [if_neg hw] at hgo
        simp only [hw]
        exact hgo
/-! ### A call that reads rows of the caller's own -/
theorem convArgs_congr {m : Bool} {st s0 : St} {ρ : List Nat} : ∀ {l : List Operand}, (∀ x, x ∈ l → st.eval x = s0.eval x) → (∀ id, id ∈ idsArgs s0 l → st.obj id = s0.obj id) → convArgs m st ρ l = convArgs m s0 ρ l
  | [], _, _ => rfl
  | x :: l, h1, h2 => by
    simp only [convArgs]
    rw [h1 x List.mem_cons_self, convTV_congr (m := m) (ρ := ρ) (x := s0.eval x) (fun id hid => h2 id (by simp only [idsArgs, List.mem_append]; exact .inl hid)), convArgs_congr (fun y hy => h1 y (List.mem_cons_of_mem _ hy)) fun id hid => h2 id (by simp only [idsArgs, List.mem_append]; exact .inr hid)]
theorem callRV_congr {st s0 : St} {c : Call} (h1 : ∀ x, x ∈ c.args.toList → st.eval x = s0.eval x) (h2 : ∀ id, id ∈ idsArgs s0 c.args.toList → st.obj id = s0.obj id) : callRV kn st c = callRV kn s0 c := by
  unfold callRV
  split
  · rw [convArgs_congr h1 h2]
  · rfl
def callRL (kn : Kn) (st : St) (c : Call) : Option BRes := (callRV kn st c).bind lowRes
def itemR (nx : Nat) (ids : List Nat) (p : BRes) : Item := ⟨renTV (bwdO p.1 (p.1.length + 1) nx) p.2.1, ids, backObjs p.1 (p.1.length + 1) nx p.2.2.1, p.1, p.2.2.2 - (p.1.length + 1)⟩
theorem callRL_some {s0 : St} {c : Call} {p : BRes} (h : callRL kn s0 c = some p) : callRV kn s0 c = some p ∧ (p.2.2.2 - (p.1.length + 1) = 0 → lowTV (p.1.length + 1) p.2.1 = true ∧ lowObjs (p.1.length + 1) p.2.2.1 = true) := by
  obtain ⟨q, h1, h2⟩ := Option.bind_eq_some_iff.1 h
  unfold lowRes at h2
  split at h2
  · split at h2
    · rename_i h3
      cases h2
      simp only [Bool.and_eq_true] at h3
      exact ⟨h1, fun _ => h3⟩
    · cases h2
  · split at h2
    · rename_i h3
      cases h2
      exact ⟨h1, fun h => by omega⟩
    · cases h2
theorem itemR_eq {st s0 : St} {c : Call} {p : BRes} {ids : List Nat} (h : callRL kn s0 c = some p) (hn : p.2.2.2 - (p.1.length + 1) ≠ 0 → st.next = s0.next) : itemR s0.next ids p = itemR st.next ids p := by
  obtain ⟨_, h2⟩ := callRL_some h
  by_cases h0 : p.2.2.2 - (p.1.length + 1) = 0
  · obtain ⟨h3, h4⟩ := h2 h0
    unfold itemR
    rw [renTV_low (nx' := st.next) h3, backObjs_low (nx' := st.next) h4]
  · rw [hn h0]
theorem backR_eqv {st : St} {o : Oper} {p : BRes} {ids : List Nat} : EqV ((st.back p.1 p.2.2.1 (p.1.length + 1) p.2.2.2).put o.dst (renTV (bwdO p.1 (p.1.length + 1) st.next) p.2.1)) (app o (itemR st.next ids p) st) :=
  back_eqv (o := o) (p := p) (st := st)
theorem opOK_callR (hkn : KnOk P kn) {o : Oper} {s0 : St} (hd : dstOk C.n o = true) (hg : Goes ops o s0) {c : Call} (ho : o.op = .call c) {p : BRes} (h : callRL kn s0 c = some p) : OpOK P C ops o (itemR s0.next (idsArgs s0 c.args.toList) p) s0 := by
  refine opOK_of hg fun st h1 h2 h3 Q K hK => ?_
  have he : ∀ x, x ∈ c.args.toList → st.eval x = s0.eval x := fun x hx => h1 x (by rw [ho]; simp only [Op.operands, Call.operands]; simp; right; simpa using hx)
  have h4 : callRV kn st c = some p := by
    rw [callRV_congr he h2]
    exact (callRL_some h).1
  refine callRV_ok hkn hd ho h4 (hK _ ?_)
  rw [itemR_eq h h3]
  exact backR_eqv
def kBackR (K : St → Item → Prop) (st : St) (d : Option Tmp) (ids : List Nat) (p : BRes) : Prop := K ((st.back p.1 p.2.2.1 (p.1.length + 1) p.2.2.2).put d (renTV (bwdO p.1 (p.1.length + 1) st.next) p.2.1)) (itemR st.next ids p)
/-! ### The walk -/
def kAllocF (b : Nat) (K : St → Item → Prop) (st : St) (d : Option Tmp) (r : Row) : Prop := K ((st.setObj b (.cells (r.zero.map fun v => .t (.v v)))).put d (.c (.ptr b 0))) ⟨.c (.ptr b 0), [], [(b, .cells (r.zero.map fun v => .t (.v v)))], [], 0⟩
def drawOpF (P : Program) (Γ : Nat → Option Row) (kn : Kn) (C : Ctx) (ops : Array Oper) (b : Nat) (o : Oper) (K : St → Item → Prop) (st : St) : Prop :=
  match o.op with
  | .alloc t => optCase (Γ t) (kAllocF b K st o.dst) fls
  | .call c => optCase (callRL kn st c) (kBackR K st o.dst (idsArgs st c.args.toList)) fun _ => drawOp P Γ kn C ops o K st
  | _ => drawOp P Γ kn C ops o K st
def drawRunF (P : Program) (Γ : Nat → Option Row) (kn : Kn) (C : Ctx) (ops : Array Oper) (b : Nat) (K : St → List Item → Prop) : List Oper → List Item → St → Prop
  | [], acc, st => K st acc
  | o :: l, acc, st => o.guard = none ∧ drawOpF P Γ kn C ops b o (kAcc (drawRunF P Γ kn C ops b K l) acc) st
theorem drawOpF_ok (hΓ : TabOk P Γ) (hkn : KnOk P kn) (hb : C.n0 ≤ b) (hb0 : b ≠ 0) {o : Oper} {s0 : St} (hd : dstOk C.n o = true) (hg : o.guard = none) {K : St → Item → Prop} (h : drawOpF P Γ kn C ops b o K s0) : ∃ it s1, OpF P C ops b o it s0 ∧ EqV (app o it s0) s1 ∧ K s1 it := by
  unfold drawOpF at h
  split at h
  · rename_i t ho
    refine optCase_elim h (fun r hr h => ?_) fun _ h => h.elim
    refine ⟨⟨.c (.ptr b 0), [], [(b, .cells (r.zero.map fun v => .t (.v v)))], [], 0⟩, _, ?_, ?_, h⟩
    · intro st h1 h2 h3 h4 Q a w hr' next hn
      have hcl := h4 (by unfold isAl; rw [ho])
      have hw : Region.wanted o (yielded ops a.tmps) = true := by simp [Region.wanted, hg]
      rw [if_pos hw]
      have key : amOp P C o Q (fun st' => EqV st' (app o ⟨.c (.ptr b 0), [], [(b, .cells (r.zero.map fun v => .t (.v v)))], [], 0⟩ st)) st := by
        refine amOp_step (st' := st.setObj b (.cells (r.zero.map fun v => .t (.v v)))) (x := .c (.ptr b 0)) hd ?_ fun E a w h => ?_
        · unfold app St.put St.setObj
          cases o.dst <;> exact EqV.refl _
        · obtain ⟨i, hi, _, _, ⟨z, hz, hzc, _⟩, _, hall, _⟩ := (hΓ t r hr).info
          refine ⟨_, .pointer (some ⟨w.heap.size, 0, none⟩), w.alloc (.cells r.zero.toArray t), ?_, h.alloc_at hcl hb hb0 t (List.all_eq_true.1 hall), ⟨w.heap.size, 0, by simp [Env.put], rfl⟩⟩
          have hzz : z.cells = r.zero.toArray := Array.toList_inj.1 (by simpa using hzc)
          simp [execOp, ho, Instr.alloc, newVar, newRow, zeroValue, typeInfo, hi, hz, hzz]
      exact key a w hr' next fun a' w' ⟨st', he, hr2⟩ => hn a' w' (he.rel hr2)
    · unfold app St.put St.setObj
      cases o.dst <;> exact EqV.refl _
  · rename_i c ho
    refine optCase_elim h (fun p hp h => ?_) fun _ h => ?_
    · exact ⟨_, _, fun st g1 g2 g3 _ => opOK_callR hkn hd (by simp only [Goes, hg]) ho hp st g1 g2 g3, backR_eqv.symm, h⟩
    · obtain ⟨it, s1, h1, h2, h3⟩ := drawOp_ok hΓ hkn hd (by simp only [Goes, hg]) h
      exact ⟨it, s1, fun st g1 g2 g3 _ => h1 st g1 g2 g3, h2, h3⟩
  · obtain ⟨it, s1, h1, h2, h3⟩ := drawOp_ok hΓ hkn hd (by simp only [Goes, hg]) h
    exact ⟨it, s1, fun st g1 g2 g3 _ => h1 st g1 g2 g3, h2, h3⟩
theorem drawRunF_ok (hΓ : TabOk P Γ) (hkn : KnOk P kn) (hb : C.n0 ≤ b) (hb0 : b ≠ 0) : ∀ (l : List Oper) (k : Nat) (acc : List Item) (K : St → List Item → Prop) (st : St), l.all (dstOk C.n) = true → drawRunF P Γ kn C ops b K l acc st →
    ∃ items s1, items.length = l.length ∧ TextF P C ops b (seg k l items) st ∧ EqV (fin (seg k l items) st) s1 ∧ K s1 (items.reverse ++ acc)
  | [], k, acc, K, st, _, h => ⟨[], st, rfl, trivial, EqV.refl _, h⟩
  | o :: l, k, acc, K, st, hd, h => by
    simp only [List.all_cons, Bool.and_eq_true] at hd
    obtain ⟨hg, hh⟩ := h
    obtain ⟨it, s1, h1, h2, h3⟩ := drawOpF_ok hΓ hkn hb hb0 hd.1 hg hh
    obtain ⟨items, s2, h4, h5, h6, h7⟩ := drawRunF_ok hΓ hkn hb hb0 l (k + 1) (it :: acc) K s1 hd.2 h3
    obtain ⟨h8, h9⟩ := TextF.eqv h5 h2.symm
    refine ⟨it :: items, s2, by simp [h4], ⟨h1, h8⟩, h9.symm.trans h6, ?_⟩
    simpa using h7
def chkC1 (ops : List Oper) (b j : Nat) : Nat → List Oper → List Item → Bool
  | m, o :: l, it :: r => ((j == m) || reachB ops j ops.length m || cleanI b it) && chkC1 ops b j (m + 1) l r
  | _, _, _ => true
def chkC (ops : List Oper) (b : Nat) (its : List Item) : Nat → List Oper → Bool
  | j, o :: l => (!isAl o || chkC1 ops b j 0 ops its) && chkC ops b its (j + 1) l
  | _, [] => true
theorem chkC1_ok {j : Nat} {q : Nat × Oper × Item} : ∀ {m : Nat} {l : List Oper} {r : List Item}, chkC1 ops.toList b j m l r = true → q ∈ seg m l r → j ≠ q.1 → ¬ Dep ops j q.1 → cleanI b q.2.2 = true
  | m, o :: l, it :: r, h, hq, hj, hn => by
    simp only [chkC1, Bool.and_eq_true, Bool.or_eq_true, beq_iff_eq] at h
    simp only [seg] at hq
    rcases List.mem_cons.1 hq with e | hq
    · subst e
      rcases h.1 with (h1 | h1) | h1
      · exact absurd h1 hj
      · exact absurd (reachB_ok h1) hn
      · exact h1
    · exact chkC1_ok h.2 hq hj hn
  | _, [], _, _, hq, _, _ => by simp [seg] at hq
  | _, _ :: _, [], _, hq, _, _ => by simp [seg] at hq
theorem chkC_ok {its : List Item} : ∀ {j : Nat} {l : List Oper} {i : Nat} {o : Oper}, chkC ops.toList b its j l = true → l[i]? = some o → isAl o = true → chkC1 ops.toList b (j + i) 0 ops.toList its = true
  | j, o' :: l, 0, o, h, ho, ha => by
    simp at ho; subst ho
    simp only [chkC, Bool.and_eq_true, Bool.or_eq_true, Bool.not_eq_true'] at h
    rcases h.1 with h1 | h1
    · rw [ha] at h1; cases h1
    · exact h1
  | j, o' :: l, i + 1, o, h, ho, ha => by
    simp only [chkC, Bool.and_eq_true] at h
    have := chkC_ok h.2 (show l[i]? = some o by simpa using ho) ha
    rwa [show j + (i + 1) = j + 1 + i by omega]
  | _, [], _, _, _, ho, _ => by simp at ho
/-- A region that draws its order and makes one variable; and what stands behind it. -/
theorem am_dsF (hm : P.follows .mixedOrders = true) (hΓ : TabOk P Γ) (hkn : KnOk P kn) {id : Nat} {y : Code} {Q : Exit → St → Prop} {st : St} (hd : ops.toList.all (dstOk C.n) = true) (hlex : lexB 0 ops.toList = true) (hb : C.n0 ≤ st.next) (hb0 : st.next ≠ 0)
    (h : ∀ K : St → List Item → Prop, (∀ s its, (chk ops.toList 0 ops.toList its.reverse && chkC ops.toList st.next its.reverse 0 ops.toList) = true → am P C y Q s → K s its) → drawRunF P Γ kn C ops st.next K ops.toList [] st.up) : am P C (.seq (.region id ops true) y) Q st := by
  refine am_seq fun a w hr => ?_
  obtain ⟨items, s1, h1, h2, h3, h4⟩ := drawRunF_ok hΓ hkn hb hb0 ops.toList 0 [] _ st.up hd (h (fun s its => (chk ops.toList 0 ops.toList its.reverse && chkC ops.toList st.next its.reverse 0 ops.toList) = true ∧ am P C y Q s) fun s its h5 h6 => ⟨h5, h6⟩)
  simp only [List.append_nil, List.reverse_reverse] at h4
  obtain ⟨h5, h6⟩ := h4
  rw [Bool.and_eq_true] at h5
  obtain ⟨E, hE⟩ := hr
  have hcl := hE.clean
  have hr' : Rel C st.up a w := ⟨E, hE.up⟩
  refine wp_region_any hm (draw_anyF (fun i o ho e he hb => ?_) ops.size _ (seg 0 ops.toList items) st.up a _ ?_ (by simp) ⟨fun p hp => ?_, fun i o ho _ => ?_, (chk_ok h5.1).1, (chk_ok h5.1).2, fun j o hj hlj => by rw [Array.getD_eq_getD_getElem?, Array.getElem?_replicate] at hlj; split at hlj <;> simp at hlj⟩ h2 (fun _ _ _ _ _ => hcl) (fun p hp j oj hj ha hne hnd => ?_) hr'.draw1 fun st' he => ?_)
  · have := lexB_ok hlex (show ops.toList[i]? = some o by simpa using ho) e he hb
    omega
  · have : ∀ (k : Nat) (l : List Oper) (r : List Item), (seg k l r).length ≤ l.length := by
      intro k l
      induction l generalizing k with
      | nil => intro r; simp [seg]
      | cons o l ih => intro r; cases r with
        | nil => simp [seg]
        | cons it r => simpa [seg] using ih (k + 1) r
    simpa using this 0 ops.toList items
  · obtain ⟨h7, h8⟩ := seg_mem hp
    have h9 : ops[p.1]? = some p.2.1 := by simpa using h8
    refine ⟨h9, ?_⟩
    have hlt := (Array.getElem?_eq_some_iff.1 h9).1
    simp [hlt]
  · have := mem_seg (k := 0) (r := items) h1 (show ops.toList[i]? = some o by simpa using ho)
    simpa using this
  · have h7 := chkC_ok (ops := ops) (j := 0) h5.2 (show ops.toList[j]? = some oj by simpa using hj) ha
    rw [Nat.zero_add] at h7
    exact chkC1_ok h7 hp hne hnd
  · show am P C y Q st'
    exact am_weak (fun a w hr => (he.symm.trans h3).rel hr) h6
end
attribute [go_sem] callRL itemR kBackR kAllocF drawOpF drawRunF St.up
end Go.Proofs.YthnpbfljoghbmaaA
