/- The calculus, ninth part: states that say less, names of blocks; what a call answers; a function's body; a call. -/
import Derived.Test.YtaolgdpkcbfocaaDoorAm8
import Derived.KernelRfl
namespace Go.Proofs.YtaolgdpkcbfocaaDoorA
set_option autoImplicit false
set_option linter.unusedVariables false

/-! ### Other names -/
def invl (j : Nat) : List (Nat × Nat) → Option Nat
  | [] => none
  | (i, k) :: l => if j = k then some i else invl j l
def renCV (ρ : Nat → Option Nat) : CV → CV
  | .t x => .t x
  | .own id lo len => match ρ id with | some k => .own k lo len | none => .junk
  | .ptr id off => match ρ id with | some k => .ptr k off | none => .junk
  | .ifp ty id off => match ρ id with | some k => .ifp ty k off | none => .junk
  | .ep id i j => match ρ id with | some k => .ep k i j | none => .junk
  | .rp xs => .rp xs
  | .irp ty xs => .irp ty xs
  | .junk => .junk
def renTV1 (ρ : Nat → Option Nat) : TV → TV
  | .c x => .c (renCV ρ x)
  | .agg xs => .agg (xs.map (renCV ρ))
  | .tup xs => .tup xs
def renTV (ρ : Nat → Option Nat) : TV → TV
  | .tup xs => .tup (xs.map (renTV1 ρ))
  | x => renTV1 ρ x
def renObj (ρ : Nat → Option Nat) : AObj → AObj
  | .cells xs => .cells (xs.map (renCV ρ))
  | .arr ty sz xs => .arr ty sz xs
theorem all2_map {α β γ : Type} {R : α → β → Prop} {R' : α → γ → Prop} {f : β → γ} (h : ∀ a b, R a b → R' a (f b)) : ∀ {as : List α} {bs : List β}, All2 R as bs → All2 R' as (bs.map f)
  | [], [], _ => trivial
  | _ :: _, _ :: _, k => ⟨h _ _ k.1, all2_map h k.2⟩
  | [], _ :: _, k => k.elim
  | _ :: _, [], k => k.elim

section
variable {E E' : Env} {w w' : World} {ρ : Nat → Option Nat}
/-- Names turn, and the world goes on. -/
structure Ren (ρ : Nat → Option Nat) (E E' : Env) (w w' : World) : Prop where
  ro : ∀ v t, RO w (roE E) v t → RO w' (roE E') v t
  rp : ∀ g o v, E.own g o = none → w.cell? ⟨g, o, none⟩ = some v → E'.own g o = none ∧ w'.cell? ⟨g, o, none⟩ = some v
  at_ : ∀ i k B, ρ i = some k → E.at_ i = some B → E'.at_ k = some B
theorem Ren.rc (h : Ren ρ E E' w w') {v : Value} {x : CV} (hx : RC E w v x) : RC E' w' v (renCV ρ x) := by
  cases x with
  | t x => exact h.ro _ _ hx
  | own id lo len =>
    simp only [renCV]
    split
    · rename_i k hk
      exact hx.imp (fun ⟨h1, h2⟩ => ⟨h.at_ _ _ _ hk h1, h2⟩) (fun ⟨g, sz, cap, o, h1, h2⟩ => ⟨g, sz, cap, o, h.at_ _ _ _ hk h1, h2⟩)
    · trivial
  | ptr id off =>
    simp only [renCV]
    split
    · rename_i k hk
      obtain ⟨g, base, h1, h2⟩ := hx; exact ⟨g, base, h.at_ _ _ _ hk h1, h2⟩
    · trivial
  | ifp ty id off =>
    simp only [renCV]
    split
    · rename_i k hk
      obtain ⟨g, base, h1, h2⟩ := hx; exact ⟨g, base, h.at_ _ _ _ hk h1, h2⟩
    · trivial
  | ep id i j =>
    simp only [renCV]
    split
    · rename_i k hk
      obtain ⟨g, sz, cap, h1, h2⟩ := hx; exact ⟨g, sz, cap, h.at_ _ _ _ hk h1, h2⟩
    · trivial
  | rp xs =>
    obtain ⟨g, o, h1, h2⟩ := hx
    refine ⟨g, o, h1, fun j t ht => ?_⟩
    obtain ⟨h3, u, h4, h5⟩ := h2 j t ht
    exact ⟨(h.rp _ _ _ h3 h4).1, u, (h.rp _ _ _ h3 h4).2, h.ro _ _ h5⟩
  | irp ty xs =>
    obtain ⟨g, o, h1, h2⟩ := hx
    refine ⟨g, o, h1, fun j t ht => ?_⟩
    obtain ⟨h3, u, h4, h5⟩ := h2 j t ht
    exact ⟨(h.rp _ _ _ h3 h4).1, u, (h.rp _ _ _ h3 h4).2, h.ro _ _ h5⟩
  | junk => trivial
theorem Ren.rt1 (h : Ren ρ E E' w w') {v : Value} {x : TV} (hx : RT1 E w v x) : RT1 E' w' v (renTV1 ρ x) := by
  cases x with
  | c x => exact h.rc hx
  | agg xs => obtain ⟨vs, h1, h2⟩ := hx; exact ⟨vs, h1, all2_map (fun a b (hab : RC E w a b) => h.rc hab) h2⟩
  | tup xs => exact hx.elim
theorem Ren.rt (h : Ren ρ E E' w w') {v : Value} {x : TV} (hx : RT E w v x) : RT E' w' v (renTV ρ x) := by
  cases x with
  | tup xs => obtain ⟨vs, h1, h2⟩ := hx; exact ⟨vs, h1, all2_map (fun a b (hab : RT1 E w a b) => h.rt1 hab) h2⟩
  | c x => exact h.rc (rtC hx)
  | agg xs => exact h.rt1 (x := .agg xs) hx
end

def St.tidy (st : St) (ρ : List (Nat × Nat)) (ts : List Nat) (N : Nat) : St :=
  ⟨ts.map fun t => (t, renTV (look · ρ) (st.get t)), ρ.filterMap fun p => (st.obj p.1).map fun o => (p.2, renObj (look · ρ) o), N⟩
def tidyOk (n0 : Nat) (ρ : List (Nat × Nat)) (N : Nat) : Bool :=
  ρ.all (fun p => decide (0 < p.2 ∧ p.2 < N) && decide (invl p.2 ρ = some p.1) && decide (look p.1 ρ = some p.2)) && (List.range n0).all (fun i => i == 0 || decide (look i ρ = some i)) && decide (0 < N)
theorem look_mem {α : Type} {i : Nat} {x : α} : ∀ {l : List (Nat × α)}, look i l = some x → (i, x) ∈ l
  | [], h => by cases h
  | (k, y) :: l, h => by
    simp only [look] at h
    split at h
    · rename_i e; subst e; cases h; exact List.mem_cons_self
    · exact List.mem_cons_of_mem _ (look_mem h)
theorem invl_mem {i j : Nat} : ∀ {l : List (Nat × Nat)}, invl j l = some i → (i, j) ∈ l
  | [], h => by cases h
  | (k, y) :: l, h => by
    simp only [invl] at h
    split at h
    · rename_i e; subst e; cases h; exact List.mem_cons_self
    · exact List.mem_cons_of_mem _ (invl_mem h)

section
variable {P : Program} {Γ : Nat → Option Row} {C : Ctx} {Q : Exit → St → Prop} {st : St} {o : Oper} {K : St → Prop} {E : Env} {a : Act} {w : World}
theorem look_tmap {f : Nat → TV} {t : Nat} {x : TV} : ∀ {ts : List Nat}, look t (ts.map fun t => (t, f t)) = some x → x = f t
  | [], h => by cases h
  | s :: ts, h => by
    simp only [List.map_cons, look] at h
    split at h
    · rename_i e; subst e; cases h; rfl
    · exact look_tmap h
theorem look_fmap {f : Nat × Nat → Option AObj} {j : Nat} {x : AObj} : ∀ {l : List (Nat × Nat)}, look j (l.filterMap fun p => (f p).map fun o => (p.2, o)) = some x → ∃ p, p ∈ l ∧ p.2 = j ∧ f p = some x
  | [], h => by cases h
  | p :: l, h => by
    rw [List.filterMap_cons] at h
    cases hp : f p with
    | none =>
      simp only [hp, Option.map_none] at h
      obtain ⟨q, h1, h2⟩ := look_fmap h
      exact ⟨q, List.mem_cons_of_mem _ h1, h2⟩
    | some o =>
      simp only [hp, Option.map_some, look] at h
      split at h
      · rename_i e; cases h; exact ⟨p, List.mem_cons_self, e.symm, hp⟩
      · obtain ⟨q, h1, h2⟩ := look_fmap h
        exact ⟨q, List.mem_cons_of_mem _ h1, h2⟩

theorem RelE.tidy (h : RelE E C st a w) {ρ : List (Nat × Nat)} {ts : List Nat} {N : Nat} (hok : tidyOk C.n0 ρ N = true) : ∃ E', RelE E' C (st.tidy ρ ts N) a w ∧ Ren (look · ρ) E E' w w := by
  simp only [tidyOk, Bool.and_eq_true, List.all_eq_true, decide_eq_true_eq, Bool.or_eq_true, beq_iff_eq, List.mem_range] at hok
  obtain ⟨⟨h1, h2⟩, h3⟩ := hok
  let E' : Env := ⟨fun j => (invl j ρ).bind E.at_, fun b o => match E.own b o with | none => none | some i => if i = 0 then some 0 else look i ρ⟩
  have hown : ∀ b o i k, E.own b o = some i → i ≠ 0 → look i ρ = some k → E'.own b o = some k := fun b o i k h4 h5 h6 => by simp only [E', h4, h5, if_false, h6]
  have hren : Ren (look · ρ) E E' w w := ⟨fun v t hv => hv.mono fun b o v' hb hc => ⟨by have hb' : E.own b o = none := hb; simp only [E', roE, hb'], hc⟩, fun g o v hg hc => ⟨by simp only [E', hg], hc⟩, fun i k B hi hB => by
    have := (h1 _ (look_mem hi)).1.2
    simp only [E', this, Option.bind_some]
    exact hB⟩
  have hat0 : E'.at_ 0 = none := by
    simp only [E']
    cases h5 : invl 0 ρ with
    | none => rfl
    | some i => have := (h1 _ (invl_mem h5)).1.1.1; simp at this
  refine ⟨E', ?_, hren⟩
  refine ⟨fun t x hx => ?_, h.size, h.defers, fun j x hx => ?_, fun j hj => ?_, hat0, h3, h.dom, ⟨h.fc.pre, h.fc.os, h.fc.tape, h.fc.output, h.fc.size, fun i B hB => ?_, h.fc.blk, fun b o hb h0 => ?_, fun b o hb => ?_, fun b o he => ?_⟩⟩
  · have := look_tmap hx
    subst this
    refine hren.rt ?_
    have := h.eval (.tmp t)
    exact this
  · obtain ⟨p, hp, h5, h6⟩ := look_fmap (f := fun p => (st.obj p.1).map (renObj (look · ρ))) (by simpa [St.tidy, St.obj, Option.map_map, Function.comp_def] using hx)
    subst h5
    obtain ⟨⟨⟨hp1, hp2⟩, hp3⟩, hp4⟩ := h1 p hp
    cases hob : st.obj p.1 with
    | none => rw [hob] at h6; cases h6
    | some ob =>
      rw [hob] at h6
      cases h6
      have hne := obj_pos h hob
      have hr := h.objs _ _ hob
      cases ob with
      | cells xs =>
        obtain ⟨g, base, cur, ty, h7, h8, h9, h10⟩ := hr
        refine ⟨g, base, cur, ty, hren.at_ _ _ _ hp4 h7, h8, by simpa using h9, fun k c hc => ?_⟩
        rw [List.getElem?_map] at hc
        cases hx0 : xs[k]? with
        | none => rw [hx0] at hc; cases hc
        | some c0 =>
          rw [hx0] at hc
          cases hc
          obtain ⟨h11, v, h12, h13, h14⟩ := h10 k c0 hx0
          exact ⟨hown _ _ _ _ h11 hne hp4, v, h12, h13, hren.rc h14⟩
      | arr ty sz xs =>
        rcases hr with ⟨h7, h8⟩ | ⟨g, cap, cur, h7, h8, h9, h10, h11, h12, h13, h14⟩
        · exact .inl ⟨hren.at_ _ _ _ hp4 h7, h8⟩
        · refine .inr ⟨g, cap, cur, hren.at_ _ _ _ hp4 h7, h8, h9, h10, h11, fun o => hown _ _ _ _ (h12 o) hne hp4, h13, fun i x hx j t ht => ?_⟩
          obtain ⟨v, h15, h16⟩ := h14 i x hx j t ht
          exact ⟨v, h15, hren.ro _ _ h16⟩
  · simp only [E']
    cases h5 : invl j ρ with
    | none => rfl
    | some i =>
      have := (h1 _ (invl_mem h5)).1.1.2
      have hj' : N ≤ j := hj
      simp only at this
      omega
  · have hi : i < C.n0 := by
      rcases Nat.lt_or_ge i C.n0 with h4 | h4
      · exact h4
      · rw [h.dom i h4] at hB; cases hB
    have hB' := h.fc.at_ i B hB
    rcases h2 i hi with h5 | h5
    · subst h5; rw [h.zero] at hB'; cases hB'
    · exact hren.at_ _ _ _ h5 hB'
  · have h4 := h.fc.keep b o hb h0
    rcases h0 with h0 | h0
    · rw [h0] at h4 ⊢; simp only [E', h4]
    · rw [h0] at h4 ⊢; simp only [E', h4, if_true]
  · have := h.fc.fresh b o hb
    simp only [E', this]
  · have h4 := h.fc.pos b o
    simp only [E'] at he
    split at he
    · cases he
    · rename_i i hi
      split at he
      · rename_i e; subst e; exact h4 hi
      · have := (h1 _ (look_mem he)).1.1.1
        simp at this
theorem Rel.tidy (h : Rel C st a w) {ρ : List (Nat × Nat)} {ts : List Nat} {N : Nat} (hok : tidyOk C.n0 ρ N = true) : Rel C (st.tidy ρ ts N) a w := by
  obtain ⟨E, h⟩ := h
  obtain ⟨E', h', _⟩ := h.tidy hok
  exact ⟨E', h'⟩
theorem am_tidy {c : Code} (ρ : List (Nat × Nat)) (ts : List Nat) (N : Nat) (hok : tidyOk C.n0 ρ N = true) (h : am P C c Q (st.tidy ρ ts N)) : am P C c Q st := am_weak (fun a w hr => hr.tidy hok) h
theorem amR_tidy {c : Code} {n : Nat} (ρ : List (Nat × Nat)) (ts : List Nat) (N : Nat) (hok : tidyOk C.n0 ρ N = true) (h : amR P C c Q n (st.tidy ρ ts N)) : amR P C c Q n st := by
  cases n with
  | zero => exact h.elim
  | succ n => exact am_tidy ρ ts N hok h

/-- A nil slice in a slot is a row of the call's own with nothing in it. -/
theorem Rel.ownNil (h : Rel C st a w) {t : Nat} (ht : look t st.tmps = some (lit (.slice none 0 0))) (ty sz : Nat) : Rel C ((st.new (.arr ty sz [])).put (some t) (.c (.own st.next 0 0))) a w := by
  obtain ⟨E, h⟩ := h
  have h1 := h.newNil ty sz
  refine ⟨_, ⟨fun s x hx => ?_, h1.size, h1.defers, h1.objs, h1.next, h1.zero, h1.npos, h1.dom, h1.fc⟩⟩
  simp only [St.put, look_push] at hx
  split at hx
  · rename_i e; subst e; cases hx
    have := ro_v (rtT (h.tmps _ _ ht))
    exact .inl ⟨if_pos rfl, this, rfl, rfl⟩
  · exact h1.tmps s x hx
theorem am_ownNil {c : Code} (t ty sz : Nat) (ht : look t st.tmps = some (lit (.slice none 0 0))) (h : am P C c Q ((st.new (.arr ty sz [])).put (some t) (.c (.own st.next 0 0)))) : am P C c Q st := am_weak (fun a w hr => hr.ownNil ht ty sz) h

/-! ### What a call answers -/
/-- Called with what args tell, the blocks objs0 handed over (their names below n0): the answer res; objs1: what these blocks hold then, and the new ones. -/
def TC (P : Program) (f : FuncId) (args : List TV) (objs0 : List (Nat × AObj)) (n0 : Nat) (res : TV) (objs1 : List (Nat × AObj)) (n1 : Nat) : Prop :=
  (∃ fn, P.funcs[f]? = some fn ∧ (fn.name == "runtime.NumGoroutine") = false ∧ fn.body.isSome = true) ∧ ∀ (E : Env) (w : World) (vs : List Value), All2 (RT E w) vs args → (∀ id x, look id objs0 = some x → RObj E w id x) → (∀ id, n0 ≤ id → E.at_ id = none) → E.at_ 0 = none → (∀ b o, w.heap.size ≤ b → E.own b o = none) →
    (∀ b o id, E.own b o = some id → id = 0 ∨ (look id objs0).isSome = true) → Pre w E →
    Calls P f vs.toArray w fun e w' => ∃ v E', e = .returned v ∧ RT E' w' v res ∧ FC w E E' w' ∧ (∀ id x, look id objs1 = some x → RObj E' w' id x) ∧ (∀ id, n1 ≤ id → E'.at_ id = none) ∧ E'.at_ 0 = none

def argSlots : Nat → List TV → List (Nat × TV)
  | _, [] => []
  | k, x :: xs => (k, x) :: argSlots (k + 1) xs
theorem argSlots_look {t : Nat} {x : TV} : ∀ {k : Nat} {xs : List TV}, look t (argSlots k xs) = some x → k ≤ t ∧ xs[t - k]? = some x
  | _, [], h => by cases h
  | k, y :: ys, h => by
    simp only [argSlots, look] at h
    split at h
    · rename_i e; subst e; cases h; simp
    · rename_i e
      obtain ⟨h1, h2⟩ := argSlots_look h
      refine ⟨by omega, ?_⟩
      rw [show t - k = (t - (k + 1)) + 1 by omega]
      simpa using h2
def oneTV : TV → TV
  | .tup _ => .c .junk
  | x => x
def retTV (rs : List Tmp) (st : St) : TV :=
  match rs with
  | [t] => st.get t
  | ts => .tup (ts.map fun t => oneTV (st.get t))
def retV (rs : List Tmp) (tmps : Array Value) : Value :=
  match rs with
  | [t] => tmps.getD t undef
  | ts => .tuple (ts.map fun t => tmps.getD t undef).toArray
/-- The body is through: the answer. -/
def RetQ (C : Ctx) (rs : List Tmp) (res : TV) (objs1 : List (Nat × AObj)) (n1 : Nat) : Exit → St → Prop := fun e st =>
  (e = .ret ∨ e = .normal) ∧ ∃ st', (∀ a w, Rel C st a w → Rel C st' a w) ∧ retTV rs st' = res ∧ (∀ id x, look id objs1 = some x → st'.obj id = some x) ∧ st'.next = n1
theorem ret_tidy {rs : List Tmp} {res : TV} {objs1 : List (Nat × AObj)} {n1 : Nat} (ρ : List (Nat × Nat)) (hok : tidyOk C.n0 ρ n1 = true) (h1 : retTV rs (st.tidy ρ rs n1) = res) (h2 : (st.tidy ρ rs n1).objs = objs1) : RetQ C rs res objs1 n1 .ret st :=
  ⟨.inl rfl, _, fun a w hr => hr.tidy hok, h1, fun id x hx => by rw [← h2] at hx; exact hx, rfl⟩
/-- The commonest end: no block of its own is handed back. -/
theorem ret_plain {rs : List Tmp} {res : TV} (hn : C.n0 = 1) (h1 : retTV rs (st.tidy [] rs 1) = res) : RetQ C rs res [] 1 .ret st :=
  ret_tidy [] (by simp [tidyOk, hn]) h1 rfl

theorem results_tmps (fn : Func) (rs : List Tmp) (h : fn.results = (rs.map ResultVar.tmp).toArray) (tmps : Array Value) (w : World) :
    (results fn tmps).run P w = .ok (retV rs tmps) w := by
  have hm : ∀ (F : ResultVar → Sem Value), (∀ t, F (.tmp t) = pure (tmps.getD t undef)) → ∀ l : List Tmp, (l.map ResultVar.tmp).mapM F = pure (l.map fun t => tmps.getD t undef) := by
    intro F hF l
    induction l with
    | nil => rfl
    | cons t l ih => rw [List.map_cons, List.mapM_cons, ih, hF]; rfl
  unfold results
  rw [h, List.mapM_toArray, hm _ fun _ => rfl]
  match rs with
  | [] => rfl
  | [t] => rfl
  | t :: u :: l => simp [retV]

theorem tc_intro {f : FuncId} {fn : Func} {c : Code} {args : List TV} {objs0 objs1 : List (Nat × AObj)} {n0 n1 : Nat} {res : TV} (hf : P.funcs[f]? = some fn) (hb : fn.body = some c) (N : Nat) (hN : fn.ntmps = N) (hl : args.length ≤ N) (h0 : 0 < n0)
    (rs : List Tmp) (hrs : fn.results = (rs.map ResultVar.tmp).toArray) (hdom : ∀ id x, look id objs0 = some x → id < n0)
    (h : ∀ w0 E0, am P ⟨w0, E0, N, n0⟩ c (RetQ ⟨w0, E0, N, n0⟩ rs res objs1 n1) ⟨argSlots 0 args, objs0, n0⟩) (hname : (fn.name == "runtime.NumGoroutine") = false := by kernel_rfl) : TC P f args objs0 n0 res objs1 n1 := by
  refine ⟨⟨fn, hf, hname, by rw [hb]; rfl⟩, ?_⟩
  intro E w vs hvs hobjs hnext hzero hfresh hown hpre
  refine calls_of_wp hf hb ?_
  have hlen := hvs.length
  have hrel : Rel ⟨w, E, N, n0⟩ ⟨argSlots 0 args, objs0, n0⟩ { tmps := vs.toArray ++ Array.replicate (fn.ntmps - vs.toArray.size) undef, defers := [] } w := by
    refine ⟨E, fun t x hx => ?_, ?_, rfl, hobjs, hnext, hzero, h0, hnext, ⟨hpre, rfl, rfl, rfl, Nat.le_refl _, fun _ _ h => h, fun b hb => ⟨fun _ => rfl, fun cur ty fr hx => ⟨cur, hx, rfl, fun _ _ => rfl⟩⟩, fun _ _ _ _ => rfl, hfresh, fun b o he => he⟩⟩
    · obtain ⟨_, h2⟩ := argSlots_look hx
      rw [Nat.sub_zero] at h2
      obtain ⟨v, h3, h4⟩ := hvs.get h2
      have ht : t < vs.length := (List.getElem?_eq_some_iff.1 h3).1
      have : (vs.toArray ++ Array.replicate (fn.ntmps - vs.toArray.size) undef).getD t undef = v := by
        rw [Array.getD_eq_getD_getElem?, Array.getElem?_append_left (by simpa using ht)]
        simp [h3]
      show RT E w ((vs.toArray ++ Array.replicate (fn.ntmps - vs.toArray.size) undef).getD t undef) x
      rw [this]
      exact h4
    · simp [hN]; omega
  refine wp_mono (h w E _ w hrel) ?_
  rintro e a w' ⟨st, ⟨he, st', hw, hres, hobj, hn⟩, hr⟩
  obtain ⟨E', hr'⟩ := hw a w' hr
  have hend : a.defers = [] ∧ ∃ v, (results fn a.tmps).run P w' = .ok v w' ∧ ∃ v' E', Ending.returned v = .returned v' ∧ RT E' w' v' res ∧ FC w E E' w' ∧ (∀ id x, look id objs1 = some x → RObj E' w' id x) ∧ (∀ id, n1 ≤ id → E'.at_ id = none) ∧ E'.at_ 0 = none := by
    refine ⟨hr'.defers, _, results_tmps fn rs hrs a.tmps w', _, E', rfl, ?_, hr'.fc, fun id x hx => hr'.objs _ _ (hobj id x hx), fun id hid => hr'.next id (by rw [hn]; exact hid), hr'.zero⟩
    rw [← hres]
    have hg : ∀ t, RT E' w' (a.tmps.getD t undef) (st'.get t) := fun t => hr'.eval (.tmp t)
    have hg1 : ∀ l : List Tmp, All2 (RT1 E' w') (l.map fun t => a.tmps.getD t undef) (l.map fun t => oneTV (st'.get t)) := by
      intro l
      induction l with
      | nil => trivial
      | cons t l ih =>
        refine ⟨?_, ih⟩
        have := hg t
        show RT1 E' w' (a.tmps.getD t undef) (oneTV (st'.get t))
        generalize st'.get t = x at this ⊢
        cases x with
        | c x => exact this
        | agg x => exact this
        | tup x => exact trivial
    match rs with
    | [t] => exact hg t
    | [] => exact ⟨[], rfl, trivial⟩
    | t :: u :: l => exact ⟨_, rfl, hg1 (t :: u :: l)⟩
  rcases he with rfl | rfl
  · exact hend
  · exact hend
end
end Go.Proofs.YtaolgdpkcbfocaaDoorA
