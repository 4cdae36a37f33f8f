/- The calculus, fifth part: new blocks, stores. -/
import Derived.Test.YtaolgdpkcbfocaaDoorAm4
import Derived.Laws.IdiomCopy
namespace Go.Proofs.YtaolgdpkcbfocaaDoorA
set_option autoImplicit false
set_option linter.unusedVariables false

section
variable {P : Program} {Γ : Nat → Option Row} {C : Ctx} {Q : Exit → St → Prop} {st : St} {o : Oper} {K : St → Prop} {E : Env} {a : Act} {w : World}

/-! ### A new block -/
def Env.new (E : Env) (id : Nat) (B : Base) (g : Nat) : Env := ⟨fun k => if k = id then some B else E.at_ k, fun b o => if b = g then some id else E.own b o⟩
theorem step_new (h : RelE E C st a w) (B : Base) (ob : Obj) : Step E (E.new st.next B w.heap.size) w (w.alloc ob) (fun _ => False) where
  os := rfl
  tape := rfl
  output := rfl
  size := by simp
  ch0 := fun h => h
  at_ := fun id B' hB => by
    simp only [Env.new]
    rw [if_neg (fun e => by subst e; rw [h.next _ (Nat.le_refl _)] at hB; cases hB)]
    exact hB
  none_ := fun b o hb h0 => by simp only [Env.new]; rw [if_neg (by omega)]; exact h0
  some_ := fun b o id h0 _ => by
    simp only [Env.new]
    rw [if_neg (fun e => by rw [h.fc.fresh b o (by omega)] at h0; cases h0)]
    exact h0
  cell := fun b o v hc _ => by
    have hb := cell_lt hc
    rw [World.cell?_of_block (w := w) (Go.heap_alloc_old w ob b hb)]
    exact hc
  blk := fun b cur ty fr hb => ⟨cur, by
    rw [Go.heap_alloc_old w ob b (Array.getElem?_eq_some_iff.1 hb).1]; exact hb, rfl⟩
  same := fun b hb _ => Go.heap_alloc_old w ob b hb
  fresh := fun b o hb => by
    have hs : (w.alloc ob).heap.size = w.heap.size + 1 := by simp
    rw [hs] at hb
    simp only [Env.new]
    rw [if_neg (by omega)]
    exact h.fc.fresh b o (by omega)
  pos := fun b o he => by
    simp only [Env.new] at he
    split at he
    · have := h.npos; have := Option.some.inj he; omega
    · exact he

theorem obj_new (st : St) (ob : AObj) (id : Nat) : (st.new ob).obj id = if id = st.next then some ob else st.obj id := by
  simp [St.new, St.obj, look_upd]
theorem RelE.new (h : RelE E C st a w) (B : Base) (ob : Obj) (x : AObj) (hx : RObj (E.new st.next B w.heap.size) (w.alloc ob) st.next x) : RelE (E.new st.next B w.heap.size) C (st.new x) a (w.alloc ob) := by
  refine h.step (step_new h B ob) rfl (fun id hid => ?_) (by show (if 0 = st.next then some B else E.at_ 0) = none; rw [if_neg (Nat.ne_of_lt h.npos)]; exact h.zero) (Nat.succ_pos _) fun id y hy => ?_
  · simp only [St.new] at hid
    simp only [Env.new]
    rw [if_neg (by omega)]
    exact h.next id (by omega)
  · rw [obj_new] at hy
    split at hy
    · rename_i e; subst e; cases hy; exact .inr hx
    · exact .inl ⟨hy, fun h => h⟩

theorem RC.one {v : Value} {x : CV} (h : RC E w v x) (hx : x ≠ .junk) : v.oneCell' = true := by
  cases x with
  | t x => exact RO.one h
  | own id lo len =>
    rcases h with ⟨_, h, _⟩ | ⟨_, _, _, _, _, h, _⟩ <;> subst h <;> rfl
  | ptr id off => obtain ⟨_, _, _, h⟩ := h; subst h; rfl
  | ifp ty id off => obtain ⟨_, _, _, h⟩ := h; subst h; rfl
  | ep id i j => obtain ⟨_, _, _, _, h⟩ := h; subst h; rfl
  | rp xs => obtain ⟨_, _, h, _⟩ := h; subst h; rfl
  | irp ty xs => obtain ⟨_, _, h, _⟩ := h; subst h; rfl
  | junk => exact absurd rfl hx
def isJunk : CV → Bool
  | .junk => true
  | _ => false
theorem ne_junk {x : CV} (h : isJunk x = false) : x ≠ .junk := by intro e; subst e; cases h
/-- A value's cells. -/
def tvCells : TV → Option (List CV)
  | .c x => if isJunk x = true then none else some [x]
  | .agg xs => if xs.any isJunk = true then none else some xs
  | .tup _ => none
theorem cells_one {v : Value} (h : v.oneCell' = true) : v.cells = #[v] := by cases v <;> first | rfl | cases h
theorem tvCells_ok {v : Value} {x : TV} {cs : List CV} (h : RT E w v x) (hc : tvCells x = some cs) : ∃ vs : List Value, v.cells = vs.toArray ∧ All2 (RC E w) vs cs ∧ ∀ u, u ∈ vs → u.oneCell' = true := by
  cases x with
  | c x =>
    simp only [tvCells] at hc
    split at hc
    · cases hc
    · rename_i hj
      cases hc
      have h1 := RC.one (rtC h) (ne_junk (by simpa using hj))
      exact ⟨[v], cells_one h1, ⟨rtC h, trivial⟩, fun u hu => by simp at hu; subst hu; exact h1⟩
  | agg xs =>
    simp only [tvCells] at hc
    split at hc
    · cases hc
    · rename_i hj
      cases hc
      obtain ⟨vs, h1, h2⟩ := rtA h
      subst h1
      refine ⟨vs, rfl, h2, fun u hu => ?_⟩
      obtain ⟨i, hi, rfl⟩ := List.getElem_of_mem hu
      have hl := h2.length
      obtain ⟨u', h3, h4⟩ := h2.get (i := i) (b := cs[i]'(by omega)) (List.getElem?_eq_getElem (by omega))
      rw [List.getElem?_eq_getElem hi] at h3
      cases h3
      refine RC.one h4 (ne_junk ?_)
      simp only [List.any_eq_true, not_exists, not_and] at hj
      exact Bool.eq_false_iff.mpr (hj _ (List.getElem_mem (by omega)))
  | tup xs => cases hc

theorem robj_cells_new (h : RelE E C st a w) {vs : List Value} {cs : List CV} (ty : TypeId) (h2 : All2 (RC E w) vs cs) (h1 : ∀ u, u ∈ vs → u.oneCell' = true) :
    RObj (E.new st.next (.cell w.heap.size 0) w.heap.size) (w.alloc (.cells vs.toArray ty)) st.next (.cells cs) := by
  refine ⟨w.heap.size, 0, vs.toArray, ty, by simp [Env.new], Go.heap_alloc_new w _, by simp [h2.length], fun j x hx => ⟨by simp [Env.new], ?_⟩⟩
  obtain ⟨v, h3, h4⟩ := h2.get hx
  exact ⟨v, by simpa using h3, h1 v (List.mem_of_getElem? h3), (step_new h _ _).rc h4⟩

theorem amOp_box {t : TypeId} {x : Operand} {cs : List CV} (ho : o.op = .box t x) (hc : tvCells (st.eval x) = some cs) (hd : dstOk C.n o = true) (hk : K ((st.new (.cells cs)).put o.dst (.c (.ptr st.next 0)))) : amOp P C o Q K st := by
  refine amOp_step hd hk fun E a w h => ?_
  obtain ⟨vs, h1, h2, h3⟩ := tvCells_ok (h.eval x) hc
  refine ⟨_, .pointer (some ⟨w.heap.size, 0, none⟩), w.alloc (.cells vs.toArray t), ?_, h.new (.cell w.heap.size 0) _ _ (robj_cells_new h t h2 h3), ⟨w.heap.size, 0, by simp [Env.new], rfl⟩⟩
  simp [execOp, ho, Instr.box, newVar, newRow, h1]

theorem all2_zero {vs : List Value} (h : vs.all (·.oneCell') = true) : All2 (RC E w) vs (vs.map fun v => .t (.v v)) :=
  all2_lits fun v hv => .v v (List.all_eq_true.1 h v hv)
theorem amOp_alloc (hΓ : TabOk P Γ) {t : TypeId} {r : Row} (ho : o.op = .alloc t) (ht : Γ t = some r) (hd : dstOk C.n o = true)
    (hk : K ((st.new (.cells (r.zero.map fun v => .t (.v v)))).put o.dst (.c (.ptr st.next 0)))) : amOp P C o Q K st := by
  refine amOp_step hd hk fun E a w h => ?_
  obtain ⟨i, hi, _, _, ⟨z, hz, hzc, _⟩, _, hall, _⟩ := (hΓ t r ht).info
  refine ⟨_, .pointer (some ⟨w.heap.size, 0, none⟩), w.alloc (.cells r.zero.toArray t), ?_, h.new (.cell w.heap.size 0) _ _ (robj_cells_new h t (all2_zero hall) (List.all_eq_true.1 hall)), ⟨w.heap.size, 0, by simp [Env.new], rfl⟩⟩
  have hzz : z.cells = r.zero.toArray := Array.toList_inj.1 (by simpa using hzc)
  simp [execOp, ho, Instr.alloc, newVar, newRow, zeroValue, typeInfo, hi, hz, hzz]

/-! ### Stores -/
def splice {α : Type} (xs : List α) (off : Nat) (cs : List α) : List α := xs.take off ++ cs ++ xs.drop (off + cs.length)
theorem splice_get {α : Type} {xs : List α} {off : Nat} {cs : List α} (h : off + cs.length ≤ xs.length) (j : Nat) : (splice xs off cs)[j]? = if off ≤ j ∧ j < off + cs.length then cs[j - off]? else xs[j]? := by
  unfold splice
  have hl : (xs.take off).length = off := by rw [List.length_take]; omega
  by_cases h1 : j < off
  · rw [List.append_assoc, List.getElem?_append_left (by omega), List.getElem?_take, if_pos h1, if_neg (by omega)]
  · by_cases h2 : j < off + cs.length
    · rw [List.append_assoc, List.getElem?_append_right (by omega), List.getElem?_append_left (by omega), hl, if_pos ⟨by omega, h2⟩]
    · rw [List.getElem?_append_right (by simp [hl]; omega), if_neg (by omega), List.getElem?_drop]
      congr 1
      simp [hl]
      omega
theorem splice_length {α : Type} {xs : List α} {off : Nat} {cs : List α} (h : off + cs.length ≤ xs.length) : (splice xs off cs).length = xs.length := by
  simp [splice]; omega

theorem setCells_heap_ne (b : Nat) : ∀ (vs : List Value) (o : Nat) (w : World) (k : Nat), k ≠ b → (w.setCells b o vs).heap[k]? = w.heap[k]?
  | [], _, _, _, _ => rfl
  | v :: vs, o, w, k, h => by
    show ((w.setCell ⟨b, o, none⟩ v).setCells b (o + 1) vs).heap[k]? = _
    rw [setCells_heap_ne b vs _ _ k h, Go.heap_setCell_other _ _ _ _ h]
theorem setCells_cur (b : Nat) : ∀ (vs : List Value) (o : Nat) (w : World) (cur : Array Value) (ty : TypeId) (fr : Nat × Nat), w.heap[b]? = some (.cells cur ty fr) →
    ∃ cur', (w.setCells b o vs).heap[b]? = some (.cells cur' ty fr) ∧ cur'.size = cur.size ∧ ∀ j : Nat, j < cur.size → cur'[j]? = if o ≤ j ∧ j < o + vs.length then vs[j - o]? else cur[j]?
  | [], o, w, cur, ty, fr, h => ⟨cur, h, rfl, fun j hj => by rw [if_neg (by simp <;> omega)]⟩
  | v :: vs, o, w, cur, ty, fr, h => by
    have h1 : (w.setCell ⟨b, o, none⟩ v).heap[b]? = some (.cells (cur.setIfInBounds o v) ty fr) := by
      simp only [World.setCell, Array.getElem?_modify, if_true, h]
      rfl
    obtain ⟨cur', h2, h3, h4⟩ := setCells_cur b vs (o + 1) _ _ _ _ h1
    refine ⟨cur', h2, by simpa using h3, fun j hj => ?_⟩
    rw [h4 j (by simpa using hj)]
    by_cases hjo : j = o
    · subst hjo
      rw [if_neg (by omega), if_pos ⟨by omega, by simp⟩]
      simp [hj]
    · by_cases hin : o ≤ j ∧ j < o + (v :: vs).length
      · rw [if_pos (by simp at hin ⊢; omega), if_pos hin]
        obtain ⟨k, rfl⟩ : ∃ k, j = o + 1 + k := ⟨j - (o + 1), by omega⟩
        rw [show o + 1 + k - (o + 1) = k by omega, show o + 1 + k - o = k + 1 by omega]
        simp
      · rw [if_neg (by simp at hin ⊢; omega), if_neg hin, Array.getElem?_setIfInBounds, if_neg (Ne.symm hjo)]
theorem setCells_meta (b : Nat) : ∀ (vs : List Value) (o : Nat) (w : World), (w.setCells b o vs).os = w.os ∧ (w.setCells b o vs).tape = w.tape ∧ (w.setCells b o vs).output = w.output ∧ (w.setCells b o vs).heap.size = w.heap.size
  | [], _, _ => ⟨rfl, rfl, rfl, rfl⟩
  | v :: vs, o, w => by
    have := setCells_meta b vs (o + 1) (w.setCell ⟨b, o, none⟩ v)
    simpa [World.setCells, World.setCell] using this

/-- A store into cells that all belong to one block of the call's own. -/
theorem obj_pos (h : RelE E C st a w) {id : Nat} {x : AObj} (hx : st.obj id = some x) : id ≠ 0 := by
  intro e
  subst e
  have := h.objs _ _ hx
  cases x with
  | cells xs => obtain ⟨g, b, c, t, h1, _⟩ := this; rw [h.zero] at h1; cases h1
  | arr ty sz xs =>
    rcases this with ⟨h1, _⟩ | ⟨g, cap, cur, h1, _⟩ <;> rw [h.zero] at h1 <;> cases h1
theorem step_store (h : RelE E C st a w) {g o : Nat} {vs : List Value} {id : Nat} (hid : id ≠ 0) (hown : ∀ j, j < vs.length → E.own g (o + j) = some id) : Step E E w (w.setCells g o vs) (fun k => k = id) where
  os := (setCells_meta g vs o w).1
  tape := (setCells_meta g vs o w).2.1
  output := (setCells_meta g vs o w).2.2.1
  size := Nat.le_of_eq (setCells_meta g vs o w).2.2.2.symm
  ch0 := fun h => hid h.symm
  at_ := fun _ _ h => h
  none_ := fun _ _ _ h => h
  some_ := fun _ _ _ h _ => h
  cell := fun b o' v hc hn => by
    by_cases hb : b = g
    · subst hb
      obtain ⟨cur, ty, fr, h1, h2⟩ := cell_cur hc
      obtain ⟨cur', h3, h4, h5⟩ := setCells_cur b vs o w cur ty fr h1
      rw [cur_cell h3, h5 o' (Array.getElem?_eq_some_iff.1 h2).1, if_neg, h2]
      intro hin
      have := hown (o' - o) (by omega)
      rw [show o + (o' - o) = o' by omega] at this
      exact hn id this rfl
    · rw [World.cell?_of_block (w := w) (setCells_heap_ne g vs o w b hb)]
      exact hc
  blk := fun b cur ty fr hb => by
    by_cases hg : b = g
    · subst hg
      obtain ⟨cur', h3, h4, _⟩ := setCells_cur b vs o w cur ty fr hb
      exact ⟨cur', h3, h4⟩
    · exact ⟨cur, (setCells_heap_ne g vs o w b hg).trans hb, rfl⟩
  same := fun b hb hn => by
    by_cases hg : b = g
    · subst hg
      cases vs with
      | nil => rfl
      | cons v vs =>
        have h1 := hown 0 (by simp)
        rw [Nat.add_zero] at h1
        rcases hn o with h2 | h2
        · rw [h2] at h1; cases h1
        · rw [h2] at h1; cases h1; exact absurd rfl hid
    · exact setCells_heap_ne g vs o w b hg
  fresh := fun b o' hb => h.fc.fresh b o' (by rw [(setCells_meta g vs o w).2.2.2] at hb; exact hb)
  pos := fun _ _ h => h

theorem run_storeAt_any {v : Value} {vs : List Value} {g off : Nat} {t : TypeId} (hc : v.cells = vs.toArray) (ht : w.there g off vs.length) (hi : (P.info? t).map (·.size) = some vs.length) (h1 : ∀ u, u ∈ vs → u.oneCell' = true) :
    (Instr.storeAt t (.pointer (some ⟨g, off, none⟩)) v).run P w = .ok () (w.setCells g off vs) := by
  have h2 := run_storeVar_mid (P := P) w g off t vs.toArray (by simpa using ht) (by simpa using hi) (Array.all_eq_true_iff_forall_mem.2 (fun v hv => h1 v (by simpa using hv)))
  have h3 : storeVar t ⟨g, off, none⟩ v = storeVar t ⟨g, off, none⟩ (.agg vs.toArray) := by unfold storeVar; rw [hc]; rfl
  simp only [Instr.storeAt, Instr.sureAddr, Sem.run_bind, Sem.run_pure, Result.andThen_ok, h3, h2]

theorem amOp_storePtr (hΓ : TabOk P Γ) {t : TypeId} {x y : Operand} {r : Row} {id off : Nat} {xs cs : List CV} (ho : o.op = .store t x y) (ht : Γ t = some r) (hx : st.eval x = .c (.ptr id off)) (hob : st.obj id = some (.cells xs))
    (hc : tvCells (st.eval y) = some cs) (hl : cs.length = r.size) (hfit : off + cs.length ≤ xs.length) (hd : dstOk C.n o = true) (hk : K ((st.setObj id (.cells (splice xs off cs))).put o.dst (.c .junk))) : amOp P C o Q K st := by
  refine amOp_do hd hk fun E a w h => ?_
  obtain ⟨vs, h1, h2, h3⟩ := tvCells_ok (h.eval y) hc
  have hxx := h.eval x
  rw [hx] at hxx
  obtain ⟨g, base, h4, h5⟩ := rtC hxx
  obtain ⟨g', base', cur, ty, h6, h7, h8, h9⟩ := h.objs _ _ hob
  rw [h4] at h6; cases h6
  have hvl := h2.length
  have hown : ∀ j, j < vs.length → E.own g (base + off + j) = some id := fun j hj => by
    rw [Nat.add_assoc]
    exact (h9 (off + j) _ (List.getElem?_eq_getElem (by omega))).1
  have hs := step_store h (vs := vs) (obj_pos h hob) hown
  refine ⟨E, w.setCells g (base + off) vs, ?_, h.step hs rfl h.next h.zero h.npos fun k z hz => ?_⟩
  · obtain ⟨i, hi, hsz, _⟩ := (hΓ t r ht).info
    have hx' : a.eval x = .pointer (some ⟨g, base + off, none⟩) := h5
    have hthere : w.there g (base + off) vs.length := fun j hj => by
      obtain ⟨_, u, h10, _⟩ := h9 (off + j) _ (List.getElem?_eq_getElem (by omega))
      refine ⟨?_, frozen_of_row w g _ cur ty h7⟩
      rw [cur_cell h7, Nat.add_assoc, h10]
      rfl
    have hrun := run_storeAt_any (P := P) (t := t) h1 hthere (by simp [hi, hsz]; omega) h3
    unfold execOp
    simp only [ho, hx']
    rw [Sem.run_bind, hrun]
    rfl
  · simp only [St.setObj, St.obj, look_upd] at hz
    split at hz
    · rename_i e
      subst e
      cases hz
      right
      obtain ⟨cur', h10, h11, h12⟩ := setCells_cur g vs (base + off) w cur ty (0, 0) h7
      refine ⟨g, base, cur', ty, h4, h10, by rw [splice_length hfit, h11]; exact h8, fun j c hc' => ?_⟩
      have hj : j < xs.length := by rw [← splice_length hfit]; exact (List.getElem?_eq_some_iff.1 hc').1
      refine ⟨(h9 j _ (List.getElem?_eq_getElem hj)).1, ?_⟩
      rw [splice_get hfit] at hc'
      rw [h12 (base + j) (by omega)]
      split at hc'
      · rename_i hin
        rw [if_pos (by omega), show base + j - (base + off) = j - off by omega]
        obtain ⟨v, h13, h14⟩ := h2.get hc'
        exact ⟨v, h13, h3 v (List.mem_of_getElem? h13), hs.rc h14⟩
      · rename_i hin
        rw [if_neg (by omega)]
        obtain ⟨_, v, h13, h14, h15⟩ := h9 j c hc'
        exact ⟨v, h13, h14, hs.rc h15⟩
    · rename_i e
      exact .inl ⟨hz, fun e' => e e'⟩
end
end Go.Proofs.YtaolgdpkcbfocaaDoorA
