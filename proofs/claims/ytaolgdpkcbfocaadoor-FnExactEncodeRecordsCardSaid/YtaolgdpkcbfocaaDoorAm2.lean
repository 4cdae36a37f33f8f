/- The calculus, second part: how a world may go on; what a state keeps. -/
import Derived.Test.YtaolgdpkcbfocaaDoorAm
namespace Go.Proofs.YtaolgdpkcbfocaaDoorA
set_option autoImplicit false
set_option linter.unusedVariables false

/-- The world goes on; only what belongs to the blocks ch may turn. -/
structure Step (E E' : Env) (w w' : World) (ch : Nat → Prop) : Prop where
  os : w'.os = w.os
  tape : w'.tape = w.tape
  output : w'.output = w.output
  size : w.heap.size ≤ w'.heap.size
  ch0 : ¬ ch 0
  at_ : ∀ id B, E.at_ id = some B → E'.at_ id = some B
  none_ : ∀ b o, b < w.heap.size → E.own b o = none → E'.own b o = none
  some_ : ∀ b o id, E.own b o = some id → ¬ ch id → E'.own b o = some id
  cell : ∀ b o v, w.cell? ⟨b, o, none⟩ = some v → (∀ id, E.own b o = some id → ¬ ch id) → w'.cell? ⟨b, o, none⟩ = some v
  blk : ∀ (b : Nat) cur ty fr, w.heap[b]? = some (.cells cur ty fr) → ∃ cur', w'.heap[b]? = some (.cells cur' ty fr) ∧ cur'.size = cur.size
  same : ∀ b : Nat, b < w.heap.size → (∀ o, fixd (E.own b o)) → w'.heap[b]? = w.heap[b]?
  fresh : ∀ b o, w'.heap.size ≤ b → E'.own b o = none
  pos : ∀ b o, E'.own b o = some 0 → E.own b o = some 0

theorem cell_lt {w : World} {b o : Nat} {v : Value} (h : w.cell? ⟨b, o, none⟩ = some v) : b < w.heap.size := World.block_lt_of_cell? w ⟨b, o, none⟩ h
theorem cell_cur {w : World} {b o : Nat} {v : Value} (h : w.cell? ⟨b, o, none⟩ = some v) : ∃ cur ty fr, w.heap[b]? = some (.cells cur ty fr) ∧ cur[o]? = some v := by
  unfold World.cell? at h
  split at h
  · rename_i c ty fr hb; exact ⟨c, ty, fr, hb, by simpa using h⟩
  · cases h
theorem cur_cell {w : World} {b o : Nat} {cur : Array Value} {ty : TypeId} {fr : Nat × Nat} (h : w.heap[b]? = some (.cells cur ty fr)) : w.cell? ⟨b, o, none⟩ = cur[o]? := by
  simp [World.cell?, h]

section
variable {E E' : Env} {w w' : World} {ch : Nat → Prop}

theorem Step.reads (s : Step E E' w w' ch) : ∀ b o v, E.own b o = none → w.cell? ⟨b, o, none⟩ = some v → E'.own b o = none ∧ w'.cell? ⟨b, o, none⟩ = some v := fun b o v h hc =>
  ⟨s.none_ b o (cell_lt hc) h, s.cell b o v hc fun id hid => by rw [h] at hid; cases hid⟩
theorem Step.ro (s : Step E E' w w' ch) {v : Value} {t : Tree} (h : RO w (fun b o => E.own b o = none) v t) : RO w' (fun b o => E'.own b o = none) v t := h.mono s.reads
theorem Step.rc (s : Step E E' w w' ch) {v : Value} {x : CV} (h : RC E w v x) : RC E' w' v x := by
  cases x with
  | t x => exact s.ro h
  | own id lo len => exact h.imp (fun ⟨h1, h2⟩ => ⟨s.at_ _ _ h1, h2⟩) (fun ⟨g, sz, cap, o, h1, h2⟩ => ⟨g, sz, cap, o, s.at_ _ _ h1, h2⟩)
  | ptr id off => obtain ⟨g, base, h1, h2⟩ := h; exact ⟨g, base, s.at_ _ _ h1, h2⟩
  | ifp ty id off => obtain ⟨g, base, h1, h2⟩ := h; exact ⟨g, base, s.at_ _ _ h1, h2⟩
  | ep id i j => obtain ⟨g, sz, cap, h1, h2⟩ := h; exact ⟨g, sz, cap, s.at_ _ _ h1, h2⟩
  | rp xs =>
    obtain ⟨g, o, h1, h2⟩ := h
    refine ⟨g, o, h1, fun j t ht => ?_⟩
    obtain ⟨h3, u, h4, h5⟩ := h2 j t ht
    exact ⟨(s.reads _ _ _ h3 h4).1, u, (s.reads _ _ _ h3 h4).2, s.ro h5⟩
  | irp ty xs =>
    obtain ⟨g, o, h1, h2⟩ := h
    refine ⟨g, o, h1, fun j t ht => ?_⟩
    obtain ⟨h3, u, h4, h5⟩ := h2 j t ht
    exact ⟨(s.reads _ _ _ h3 h4).1, u, (s.reads _ _ _ h3 h4).2, s.ro h5⟩
  | junk => trivial
theorem Step.rt1 (s : Step E E' w w' ch) {v : Value} {x : TV} (h : RT1 E w v x) : RT1 E' w' v x := by
  cases x with
  | c x => exact s.rc h
  | agg xs => obtain ⟨vs, h1, h2⟩ := h; exact ⟨vs, h1, h2.mono fun _ _ => s.rc⟩
  | tup xs => exact h.elim
theorem Step.rt (s : Step E E' w w' ch) {v : Value} {x : TV} (h : RT E w v x) : RT E' w' v x := by
  cases x with
  | tup xs => obtain ⟨vs, h1, h2⟩ := h; exact ⟨vs, h1, h2.mono fun _ _ => s.rt1⟩
  | c x => exact s.rc (show RC E w v x from h)
  | agg xs => exact s.rt1 (x := .agg xs) h
theorem Step.robj (s : Step E E' w w' ch) {id : Nat} (hid : ¬ ch id) {o : AObj} (h : RObj E w id o) : RObj E' w' id o := by
  cases o with
  | cells xs =>
    obtain ⟨g, base, cur, ty, h1, h2, h3, h4⟩ := h
    obtain ⟨cur', h5, h6⟩ := s.blk g cur ty _ h2
    refine ⟨g, base, cur', ty, s.at_ _ _ h1, h5, by omega, fun j x hx => ?_⟩
    obtain ⟨h7, v, h8, h9, h10⟩ := h4 j x hx
    have hc : w.cell? ⟨g, base + j, none⟩ = some v := by rw [cur_cell h2]; exact h8
    refine ⟨s.some_ _ _ _ h7 hid, v, ?_, h9, s.rc h10⟩
    rw [← cur_cell h5]
    exact s.cell _ _ _ hc fun id' hid' => by rw [h7] at hid'; cases hid'; exact hid
  | arr ty sz xs =>
    rcases h with ⟨h1, h2⟩ | ⟨g, cap, cur, h1, h2, h3, h4, h4', h5, h6, h7⟩
    · exact .inl ⟨s.at_ _ _ h1, h2⟩
    obtain ⟨cur', h8, h9⟩ := s.blk g cur ty _ h2
    refine .inr ⟨g, cap, cur', s.at_ _ _ h1, h8, by omega, h4, h4', fun o => s.some_ _ _ _ (h5 o) hid, h6, fun i x hx j t ht => ?_⟩
    obtain ⟨v, hv, hr⟩ := h7 i x hx j t ht
    have hc : w.cell? ⟨g, i * sz + j, none⟩ = some v := by rw [cur_cell h2]; exact hv
    refine ⟨v, ?_, s.ro hr⟩
    rw [← cur_cell h8]
    exact s.cell _ _ _ hc fun id' hid' => by rw [h5] at hid'; cases hid'; exact hid
theorem Step.fixd_ (s : Step E E' w w' ch) {b o : Nat} (hb : b < w.heap.size) (h : fixd (E.own b o)) : E'.own b o = E.own b o := by
  rcases h with h | h
  · rw [h, s.none_ b o hb h]
  · rw [h, s.some_ b o 0 h s.ch0]
/-- Later it may still be leant on. -/
theorem Pre.later {w0 w : World} {E0 E E' : Env} (h : FC w0 E0 E w) (hE : ∀ b o, E.own b o = none → E'.own b o = none) : Pre w E' := by
  obtain ⟨h1, h2⟩ := h.pre
  have hb : 1 < w0.heap.size := by
    have := h1 0 (by decide)
    exact cell_lt this
  have hs : w.heap[1]? = w0.heap[1]? := (h.blk _ hb).1 fun o => .inl (h2 o)
  refine ⟨fun i hi => ?_, fun o => hE _ _ ?_⟩
  · have := h1 i hi
    unfold World.cell? at this ⊢
    simp only [hs]
    exact this
  · rw [h.keep _ o hb (.inl (h2 o))]
    exact h2 o
theorem Step.fc {w0 : World} {E0 : Env} (s : Step E E' w w' ch) (h : FC w0 E0 E w) : FC w0 E0 E' w' where
  pre := h.pre
  os := s.os.trans h.os
  tape := s.tape.trans h.tape
  output := s.output.trans h.output
  size := Nat.le_trans h.size s.size
  at_ := fun id B hB => s.at_ id B (h.at_ id B hB)
  blk := fun b hb => by
    obtain ⟨h1, h2⟩ := h.blk b hb
    have hb' : b < w.heap.size := Nat.lt_of_lt_of_le hb h.size
    refine ⟨fun h0 => (s.same b hb' fun o => ?_).trans (h1 h0), fun cur ty fr hx => ?_⟩
    · have := h.keep b o hb (h0 o)
      rw [this]; exact h0 o
    obtain ⟨cur', h3, h4, h5⟩ := h2 cur ty fr hx
    obtain ⟨cur'', h6, h7⟩ := s.blk b cur' ty fr h3
    refine ⟨cur'', h6, by omega, fun o ho => ?_⟩
    rw [← h5 o ho]
    have hn := h.keep b o hb ho
    rcases hv : cur'[o]? with _ | v
    · rw [Array.getElem?_eq_none_iff] at hv ⊢; omega
    · rw [← cur_cell h6]
      refine s.cell _ _ _ (by rw [cur_cell h3]; exact hv) fun id hid => ?_
      rw [hn] at hid
      rcases ho with ho | ho
      · rw [ho] at hid; cases hid
      · rw [ho] at hid; cases hid; exact s.ch0
  keep := fun b o hb h0 => by
    have h1 := h.keep b o hb h0
    rw [s.fixd_ (Nat.lt_of_lt_of_le hb h.size) (by rw [h1]; exact h0), h1]
  fresh := s.fresh
  pos := fun b o he => h.pos b o (s.pos b o he)

theorem RelE.step {C : Ctx} {st st' : St} {a : Act} (h : RelE E C st a w) (s : Step E E' w w' ch) (ht : st'.tmps = st.tmps) (hn : ∀ id, st'.next ≤ id → E'.at_ id = none) (hz : E'.at_ 0 = none) (hp : 0 < st'.next)
    (ho : ∀ id o, st'.obj id = some o → (st.obj id = some o ∧ ¬ ch id) ∨ RObj E' w' id o) : RelE E' C st' a w' where
  tmps := fun t x hx => s.rt (h.tmps t x (ht ▸ hx))
  size := h.size
  defers := h.defers
  objs := fun id o hx => (ho id o hx).elim (fun ⟨h1, h2⟩ => s.robj h2 (h.objs id o h1)) (fun h => h)
  next := hn
  zero := hz
  npos := hp
  dom := h.dom
  fc := s.fc h.fc
end

theorem rtC {E : Env} {w : World} {v : Value} {x : CV} (h : RT E w v (.c x)) : RC E w v x := h
theorem rtT {E : Env} {w : World} {v : Value} {x : Tree} (h : RT E w v (.c (.t x))) : RO w (fun b o => E.own b o = none) v x := h
theorem rtA {E : Env} {w : World} {v : Value} {xs : List CV} (h : RT E w v (.agg xs)) : ∃ vs : List Value, v = .agg vs.toArray ∧ All2 (RC E w) vs xs := h

/-- Nothing turns. -/
theorem Step.refl {E : Env} {w : World} (hf : ∀ b o, w.heap.size ≤ b → E.own b o = none) : Step E E w w (fun _ => False) :=
  ⟨rfl, rfl, rfl, Nat.le_refl _, fun h => h, fun _ _ h => h, fun _ _ _ h => h, fun _ _ _ h _ => h, fun _ _ _ h _ => h, fun _ cur _ _ h => ⟨cur, h, rfl⟩, fun _ _ _ => rfl, hf, fun _ _ h => h⟩

section
variable {E : Env} {C : Ctx} {st : St} {a : Act} {w : World}
theorem RelE.put (h : RelE E C st a w) {dst : Option Tmp} {v : Value} {x : TV} (hx : RT E w v x) (hd : ∀ d, dst = some d → d < C.n) : RelE E C (st.put dst x) (a.put dst v) w := by
  cases dst with
  | none => exact h
  | some d =>
    have hlt := hd d rfl
    refine ⟨fun t y hy => ?_, by simp [Act.put, h.size], h.defers, h.objs, h.next, h.zero, h.npos, h.dom, h.fc⟩
    simp only [St.put, look_push] at hy
    simp only [Act.put, Array.getD_eq_getD_getElem?, Array.getElem?_setIfInBounds]
    split at hy
    · rename_i e; subst e; cases hy
      rw [if_pos rfl, if_pos (by rw [h.size]; exact hlt)]
      exact hx
    · rename_i e
      rw [if_neg (fun e' => e e'.symm)]
      have := h.tmps t y hy
      rwa [Array.getD_eq_getD_getElem?] at this
/-- What an operand's value is told as. -/
def constTV (v : Value) : TV :=
  match v with
  | .agg cs => if cs.toList.all (·.oneCell') then .agg (cs.toList.map fun v => .t (.v v)) else .c .junk
  | .tuple _ => .c .junk
  | v => .c (.t (.v v))
def St.eval (st : St) : Operand → TV
  | .tmp t => st.get t
  | .const v => constTV v
  | .global g => .c (.t (.v (.pointer (some ⟨g, 0, none⟩))))
  | .func f => .c (.t (.v (.func (.func f) #[] #[])))
theorem all2_lits {R : Value → CV → Prop} : ∀ {l : List Value}, (∀ v, v ∈ l → R v (.t (.v v))) → All2 R l (l.map fun v => .t (.v v))
  | [], _ => trivial
  | _ :: _, h => ⟨h _ List.mem_cons_self, all2_lits fun v hv => h v (List.mem_cons_of_mem _ hv)⟩
theorem rt_const (v : Value) : RT E w v (constTV v) := by
  cases v with
  | agg cs =>
    simp only [constTV]
    split
    · rename_i hall
      rw [List.all_eq_true] at hall
      exact ⟨cs.toList, by simp, all2_lits fun v hv => .v v (hall v hv)⟩
    · trivial
  | tuple vs => trivial
  | _ => exact RO.v _ rfl
theorem RelE.eval (h : RelE E C st a w) (x : Operand) : RT E w (a.eval x) (st.eval x) := by
  cases x with
  | tmp t =>
    simp only [St.eval, St.get, Act.eval]
    cases hx : look t st.tmps with
    | none => exact trivial
    | some y => exact h.tmps t y hx
  | const v => exact rt_const v
  | global g => exact .v _ rfl
  | func f => exact .v _ rfl
theorem ro_v {A : Nat → Nat → Prop} {u v : Value} (h : RO w A u (.v v)) : u = v := by
  cases h with
  | v _ _ => rfl
theorem RelE.lit (h : RelE E C st a w) {x : Operand} {v : Value} (hx : st.eval x = .c (.t (.v v))) : a.eval x = v := by
  have := h.eval x
  rw [hx] at this
  generalize a.eval x = u at this ⊢
  exact ro_v this
end
end Go.Proofs.YtaolgdpkcbfocaaDoorA
