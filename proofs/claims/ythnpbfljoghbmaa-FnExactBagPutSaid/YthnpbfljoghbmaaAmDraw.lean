/- The calculus: regions that draw their order: what is not bound by an edge and does not touch the same may come in either order; so one walk in the order of the text serves. -/
import Derived.Test.YthnpbfljoghbmaaB3
import Derived.Orders
namespace Go.Proofs.YthnpbfljoghbmaaA
set_option autoImplicit false
set_option linter.unusedVariables false

/-- What one operation does to a state: the value, the blocks it reads, writes, drops; how many new ones. -/
structure Item where
  x : TV
  rd : List Nat
  wr : List (Nat × AObj)
  de : List Nat
  al : Nat
def updAll : List (Nat × AObj) → List (Nat × AObj) → List (Nat × AObj)
  | [], l => l
  | p :: r, l => upd p.1 p.2 (updAll r l)
def app (o : Oper) (it : Item) (st : St) : St := ⟨match o.dst with | some d => push d it.x st.tmps | none => st.tmps, updAll it.wr (delAll it.de st.objs), st.next + it.al⟩
def wrIds (it : Item) : List Nat := it.wr.map (·.1) ++ it.de
def tmpOf : Operand → List Nat
  | .tmp t => [t]
  | _ => []
def uses (ops : List Oper) (o : Oper) : List Nat :=
  o.op.operands.toList.flatMap tmpOf ++ (match o.guard with | some (j, _) => (dstAt ops j).toList | none => [])
structure EqV (s s' : St) : Prop where
  tmps : ∀ t, look t s.tmps = look t s'.tmps
  objs : ∀ id, s.obj id = s'.obj id
  next : s.next = s'.next
theorem EqV.refl (s : St) : EqV s s := ⟨fun _ => rfl, fun _ => rfl, rfl⟩
theorem EqV.trans {a b c : St} (h : EqV a b) (k : EqV b c) : EqV a c := ⟨fun t => (h.tmps t).trans (k.tmps t), fun t => (h.objs t).trans (k.objs t), h.next.trans k.next⟩
theorem EqV.symm {a b : St} (h : EqV a b) : EqV b a := ⟨fun t => (h.tmps t).symm, fun t => (h.objs t).symm, h.next.symm⟩
theorem EqV.rel {C : Ctx} {s s' : St} (h : EqV s s') {a : Act} {w : World} (hr : Rel C s a w) : Rel C s' a w := by
  obtain ⟨E, hr⟩ := hr
  exact ⟨E, fun t x hx => hr.tmps t x (by rw [h.tmps]; exact hx), hr.size, hr.defers, fun id o ho => hr.objs id o (by rw [h.objs]; exact ho), fun id hid => hr.next id (by rw [h.next]; exact hid), hr.zero, by rw [← h.next]; exact hr.npos, hr.dom, hr.fc⟩
def hitD (d : Option Tmp) (t : Nat) : Bool :=
  match d with
  | some d => d == t
  | none => false
theorem app_tmps (o : Oper) (it : Item) (st : St) (t : Nat) : look t (app o it st).tmps = if hitD o.dst t = true then some it.x else look t st.tmps := by
  unfold app hitD
  cases o.dst with
  | none => simp
  | some d =>
    simp only [look_push, beq_iff_eq]
    by_cases h : t = d
    · subst h; simp
    · simp [h, Ne.symm h]
theorem look_updAll {id : Nat} : ∀ {r l : List (Nat × AObj)}, look id (updAll r l) = match look id r with | some x => some x | none => look id l
  | [], l => rfl
  | p :: r, l => by
    obtain ⟨k, x⟩ := p
    simp only [updAll, look_upd, look]
    split
    · rfl
    · exact look_updAll
theorem app_obj (o : Oper) (it : Item) (st : St) (id : Nat) : (app o it st).obj id = match look id it.wr with | some x => some x | none => if id ∈ it.de then none else st.obj id := by
  simp only [app, St.obj, look_updAll, look_delAll]
theorem app_obj_ne {o : Oper} {it : Item} {st : St} {id : Nat} (h : id ∉ wrIds it) : (app o it st).obj id = st.obj id := by
  simp only [wrIds, List.mem_append, List.mem_map, not_or, not_exists, not_and] at h
  rw [app_obj]
  have : look id it.wr = none := by
    cases hl : look id it.wr with
    | none => rfl
    | some x => exact absurd rfl (h.1 _ (look_mem hl))
  rw [this, if_neg h.2]
theorem app_eqv {o : Oper} {it : Item} {s s' : St} (h : EqV s s') : EqV (app o it s) (app o it s') :=
  ⟨fun t => by rw [app_tmps, app_tmps, h.tmps], fun id => by rw [app_obj, app_obj, h.objs], by simp [app, h.next]⟩

section
variable {P : Program} {Γ : Nat → Option Row} {C : Ctx} {ops : Array Oper}

/-- In whatever state reads as s0 where the operation looks, it does just this. -/
def OpOK (P : Program) (C : Ctx) (ops : Array Oper) (o : Oper) (it : Item) (s0 : St) : Prop :=
  ∀ st : St, (∀ t, t ∈ uses ops.toList o → look t st.tmps = look t s0.tmps) → (∀ id, id ∈ it.rd → st.obj id = s0.obj id) → (it.al ≠ 0 → st.next = s0.next) →
    ∀ (Q : Exit → St → Prop) a w, Rel C st a w → ∀ next : Act → World → Prop, (∀ a' w', Rel C (app o it st) a' w' → next a' w') →
      if Region.wanted o (yielded ops a.tmps) then o.wp P a w next (liftQ C Q) else next (a.put o.dst undef) w
theorem OpOK.eqv {o : Oper} {it : Item} {s s' : St} (h : OpOK P C ops o it s) (he : EqV s s') : OpOK P C ops o it s' :=
  fun st h1 h2 h3 => h st (fun t ht => (h1 t ht).trans (he.tmps t).symm) (fun id hid => (h2 id hid).trans (he.objs id).symm) fun h0 => (h3 h0).trans he.next.symm

abbrev Seg := List (Nat × Oper × Item)
def TextOK (P : Program) (C : Ctx) (ops : Array Oper) : Seg → St → Prop
  | [], _ => True
  | (i, o, it) :: r, s => OpOK P C ops o it s ∧ TextOK P C ops r (app o it s)
def fin : Seg → St → St
  | [], s => s
  | (_, o, it) :: r, s => fin r (app o it s)
theorem TextOK.eqv : ∀ {r : Seg} {s s' : St}, TextOK P C ops r s → EqV s s' → TextOK P C ops r s' ∧ EqV (fin r s) (fin r s')
  | [], s, s', _, he => ⟨trivial, he⟩
  | (i, o, it) :: r, s, s', h, he => by
    have h1 := TextOK.eqv h.2 (app_eqv (o := o) (it := it) he)
    exact ⟨⟨h.1.eqv he, h1.1⟩, h1.2⟩

/-- Two operations that do not touch the same. -/
structure Apart (ops : List Oper) (a b : Oper × Item) : Prop where
  dst : ∀ t, ¬ (hitD a.1.dst t = true ∧ hitD b.1.dst t = true)
  ab : ∀ t, t ∈ uses ops b.1 → hitD a.1.dst t = false
  ba : ∀ t, t ∈ uses ops a.1 → hitD b.1.dst t = false
  wr : ∀ id, id ∈ wrIds a.2 → id ∉ b.2.rd ∧ id ∉ wrIds b.2
  rw : ∀ id, id ∈ wrIds b.2 → id ∉ a.2.rd
  al : a.2.al = 0 ∨ b.2.al = 0
theorem swap {i j : Nat} {o o' : Oper} {it it' : Item} {r : Seg} {s : St} (ha : Apart ops.toList (o, it) (o', it')) (h : TextOK P C ops ((i, o, it) :: (j, o', it') :: r) s) :
    TextOK P C ops ((j, o', it') :: (i, o, it) :: r) s ∧ EqV (fin ((i, o, it) :: (j, o', it') :: r) s) (fin ((j, o', it') :: (i, o, it) :: r) s) := by
  obtain ⟨h1, h2, h3⟩ := h
  have hb : OpOK P C ops o' it' s := fun st g1 g2 g3 => h2 st
    (fun t ht => by rw [g1 t ht, app_tmps, if_neg (by rw [ha.ab t ht]; simp)])
    (fun id hid => by rw [g2 id hid, app_obj_ne fun hw => (ha.wr id hw).1 hid])
    (fun h0 => by rw [g3 h0]; have := ha.al; simp only [app]; simp only at this; omega)
  have hc : OpOK P C ops o it (app o' it' s) := fun st g1 g2 g3 => h1 st
    (fun t ht => by rw [g1 t ht, app_tmps, if_neg (by rw [ha.ba t ht]; simp)])
    (fun id hid => by rw [g2 id hid, app_obj_ne fun hw => ha.rw id hw hid])
    (fun h0 => by rw [g3 h0]; have := ha.al; simp only [app]; simp only at this; omega)
  have he : EqV (app o' it' (app o it s)) (app o it (app o' it' s)) := by
    refine ⟨fun t => ?_, fun id => ?_, by simp only [app]; omega⟩
    · rw [app_tmps, app_tmps, app_tmps, app_tmps]
      have := ha.dst t
      by_cases x : hitD o.dst t = true <;> by_cases y : hitD o'.dst t = true <;> simp [x, y] at this ⊢
    · by_cases x : id ∈ wrIds it
      · have hx := (ha.wr id x).2
        rw [app_obj_ne hx, app_obj, app_obj, app_obj_ne hx]
      · rw [app_obj_ne (o := o) (st := app o' it' s) x, app_obj o' it' (app o it s) id, app_obj o' it' s id, app_obj_ne x]
  have h4 := TextOK.eqv h3 he
  exact ⟨⟨hb, hc, h4.1⟩, h4.2⟩
theorem front {j : Nat} {o' : Oper} {it' : Item} {r2 : Seg} : ∀ {r1 : Seg} {s : St}, (∀ p, p ∈ r1 → Apart ops.toList p.2 (o', it')) → TextOK P C ops (r1 ++ (j, o', it') :: r2) s →
    TextOK P C ops ((j, o', it') :: (r1 ++ r2)) s ∧ EqV (fin (r1 ++ (j, o', it') :: r2) s) (fin ((j, o', it') :: (r1 ++ r2)) s)
  | [], s, _, h => ⟨h, EqV.refl _⟩
  | (i, o, it) :: r1, s, ha, h => by
    obtain ⟨h1, h2⟩ := front (r1 := r1) (fun p hp => ha p (List.mem_cons_of_mem _ hp)) h.2
    obtain ⟨h3, h4⟩ := swap (ops := ops) (ha (i, o, it) List.mem_cons_self) (show TextOK P C ops ((i, o, it) :: (j, o', it') :: (r1 ++ r2)) s from ⟨h.1, h1⟩)
    exact ⟨h3, h2.trans h4⟩

/-- The one must have been carried out ahead of the other. -/
inductive Dep (ops : Array Oper) (k : Nat) : Nat → Prop
  | one (j : Nat) (o : Oper) (h : ops[j]? = some o) (he : ∃ e, e ∈ o.after ∧ Region.binds .any e = true ∧ e.on = k) : Dep ops k j
  | more (j : Nat) (o : Oper) (m : Nat) (h : ops[j]? = some o) (he : ∃ e, e ∈ o.after ∧ Region.binds .any e = true ∧ e.on = m) (hm : Dep ops k m) : Dep ops k j
theorem Dep.listed {ops : Array Oper} {listed : Array Bool} (hc : ∀ (j : Nat) o, ops[j]? = some o → listed.getD j false = true → ∀ e, e ∈ o.after → Region.binds .any e = true → listed.getD e.on false = true) {k j : Nat} (h : Dep ops k j) : listed.getD j false = true → listed.getD k false = true := by
  induction h with
  | one j o h he => intro hj; obtain ⟨e, h1, h2, h3⟩ := he; rw [← h3]; exact hc j o h hj e h1 h2
  | more j o m h he _ ih => intro hj; obtain ⟨e, h1, h2, h3⟩ := he; exact ih (by rw [← h3]; exact hc j o h hj e h1 h2)
/-- What is left to do, against what has been listed. -/
structure Left (ops : Array Oper) (seg : Seg) (listed : Array Bool) : Prop where
  mem : ∀ p, p ∈ seg → ops[p.1]? = some p.2.1 ∧ listed.getD p.1 true = false
  all : ∀ (i : Nat) o, ops[i]? = some o → listed.getD i true = false → ∃ it, (i, o, it) ∈ seg
  asc : seg.Pairwise fun p q => p.1 < q.1
  apart : seg.Pairwise fun p q => ¬ Dep ops p.1 q.1 → Apart ops.toList p.2 q.2
  closed : ∀ (j : Nat) o, ops[j]? = some o → listed.getD j false = true → ∀ e, e ∈ o.after → Region.binds .any e = true → listed.getD e.on false = true

theorem draw_any (hlex : ∀ (i : Nat) o, ops[i]? = some o → ∀ e, e ∈ o.after → Region.binds .any e = true → e.on < i) {Q : Exit → St → Prop} : ∀ (fuel : Nat) (listed : Array Bool) (seg : Seg) (st : St) (a : Act) (w : World), seg.length ≤ fuel → listed.size = ops.size → Left ops seg listed → TextOK P C ops seg st →
    Rel C st a w → (∀ st', EqV (fin seg st) st' → Q .normal st') → wpAny P .any ops (liftQ C Q) fuel listed a w := by
  intro fuel
  induction fuel with
  | zero =>
    intro listed seg st a w hl hsz hL hT hr hQ
    have : seg = [] := List.eq_nil_of_length_eq_zero (by omega)
    subst this
    refine ⟨?_, st, hQ st (EqV.refl _), hr⟩
    rw [List.eq_nil_iff_forall_not_mem]
    intro i hi
    rw [mem_ready] at hi
    obtain ⟨h0, o, ho, _⟩ := hi
    obtain ⟨it, hm⟩ := hL.all i o ho h0
    cases hm
  | succ fuel ih =>
    intro listed seg st a w hl hsz hL hT hr hQ
    refine ⟨fun hnil => ?_, fun i hi => ?_⟩
    · cases seg with
      | nil => exact ⟨st, hQ st (EqV.refl _), hr⟩
      | cons p r =>
        exfalso
        obtain ⟨h1, h2⟩ := hL.mem p List.mem_cons_self
        have hp : p.1 ∈ Region.ready .any ops listed := by
          rw [mem_ready]
          refine ⟨h2, p.2.1, h1, fun e he hb => ?_⟩
          have hlt := hlex p.1 p.2.1 h1 e he hb
          rcases hx : listed.getD e.on false with _ | _
          · exfalso
            have hel : e.on < listed.size := by
              have := (Array.getElem?_eq_some_iff.1 h1).1
              omega
            have hx' : listed.getD e.on true = false := by
              rw [Array.getD_eq_getD_getElem?, Array.getElem?_eq_getElem hel] at hx ⊢
              exact hx
            have hel' : e.on < ops.size := by omega
            obtain ⟨it, hm⟩ := hL.all e.on _ (Array.getElem?_eq_getElem hel') hx'
            have hasc := hL.asc
            rw [List.pairwise_cons] at hasc
            rcases List.mem_cons.1 hm with e1 | e1
            · rw [← e1] at hlt; simp at hlt
            · have := hasc.1 _ e1; simp only at this; omega
          · rfl
        rw [hnil] at hp
        cases hp
    · have hi' := hi
      rw [mem_ready] at hi
      obtain ⟨h0, o, ho, hdep⟩ := hi
      obtain ⟨it, hm⟩ := hL.all i o ho h0
      obtain ⟨r1, r2, hseg⟩ := List.append_of_mem hm
      subst hseg
      have hap : ∀ p, p ∈ r1 → Apart ops.toList p.2 (o, it) := fun p hp => by
        have h1 := hL.apart
        rw [List.pairwise_append] at h1
        refine h1.2.2 p hp _ List.mem_cons_self fun hdp => ?_
        have h3 := (hL.mem p (List.mem_append_left _ hp)).2
        have h2 : listed.getD p.1 false = true := by
          cases hdp with
          | one j o' h he =>
            obtain ⟨e, g1, g2, g3⟩ := he
            rw [ho] at h; cases h
            rw [← g3]; exact hdep e g1 g2
          | more j o' m h he hm =>
            obtain ⟨e, g1, g2, g3⟩ := he
            rw [ho] at h; cases h
            exact hm.listed hL.closed (by rw [← g3]; exact hdep e g1 g2)
        rw [Array.getD_eq_getD_getElem?] at h2 h3
        cases hg : listed[p.1]? with
        | none => rw [hg] at h2; cases h2
        | some b => rw [hg] at h2 h3; simp at h2 h3; rw [h2] at h3; cases h3
      obtain ⟨hT1, hE⟩ := front hap hT
      unfold wpOp
      rw [ho]
      have hgo := hT1.1 st (fun _ _ => rfl) (fun _ _ => rfl) (fun _ => rfl) Q a w hr (wpAny P .any ops (liftQ C Q) fuel (listed.setIfInBounds i true)) fun a' w' hr' => by
        refine ih _ (r1 ++ r2) _ a' w' (by simp at hl ⊢; omega) (by simpa using hsz) ⟨fun p hp => ?_, fun k ok hk hlk => ?_, ?_, ?_, fun k ok hk hlk e he hb => ?_⟩ hT1.2 hr' fun st' he' => hQ st' (hE.trans he')
        · have hp' : p ∈ r1 ++ (i, o, it) :: r2 := by
            rcases List.mem_append.1 hp with h | h
            · exact List.mem_append_left _ h
            · exact List.mem_append_right _ (List.mem_cons_of_mem _ h)
          obtain ⟨h1, h2⟩ := hL.mem p hp'
          refine ⟨h1, ?_⟩
          have hne : i ≠ p.1 := by
            have hasc := hL.asc
            rw [List.pairwise_append, List.pairwise_cons] at hasc
            rcases List.mem_append.1 hp with h | h
            · have := hasc.2.2 p h _ List.mem_cons_self; simp only at this; omega
            · have := hasc.2.1.1 p h; simp only at this; omega
          rw [getD_set_ne true hne]
          exact h2
        · have hne : i ≠ k := by
            intro e
            subst e
            have hlt : i < listed.size := by
              have := (Array.getElem?_eq_some_iff.1 hk).1
              omega
            simp [hlt] at hlk
          rw [getD_set_ne true hne] at hlk
          obtain ⟨it2, hm2⟩ := hL.all k ok hk hlk
          refine ⟨it2, ?_⟩
          rcases List.mem_append.1 hm2 with h | h
          · exact List.mem_append_left _ h
          · rcases List.mem_cons.1 h with e | h
            · cases e; exact absurd rfl hne
            · exact List.mem_append_right _ h
        · have hasc := hL.asc
          rw [List.pairwise_append, List.pairwise_cons] at hasc
          rw [List.pairwise_append]
          exact ⟨hasc.1, hasc.2.1.2, fun p hp q hq => hasc.2.2 p hp q (List.mem_cons_of_mem _ hq)⟩
        · have hasc := hL.apart
          rw [List.pairwise_append, List.pairwise_cons] at hasc
          rw [List.pairwise_append]
          exact ⟨hasc.1, hasc.2.1.2, fun p hp q hq => hasc.2.2 p hp q (List.mem_cons_of_mem _ hq)⟩
        · have hup : ∀ m, listed.getD m false = true → (listed.setIfInBounds i true).getD m false = true := fun m hm => by
            by_cases hmi : i = m
            · subst hmi
              have hlt : i < listed.size := by
                rw [Array.getD_eq_getD_getElem?] at hm
                cases hg : listed[i]? with
                | none => rw [hg] at hm; cases hm
                | some b => exact (Array.getElem?_eq_some_iff.1 hg).1
              simp [hlt]
            · rw [getD_set_ne false hmi]; exact hm
          by_cases hki : i = k
          · subst hki
            rw [ho] at hk; cases hk
            exact hup _ (hdep e he hb)
          · rw [getD_set_ne false hki] at hlk
            exact hup _ (hL.closed k ok hk hlk e he hb)
      by_cases hw : Region.wanted o (yielded ops a.tmps) = true
      · rw [if_pos hw] at hgo
        simp only [hw, if_true]
        exact .inl hgo
      · rw [if_neg hw] at hgo
        simp only [hw]
        exact hgo
end
end Go.Proofs.YthnpbfljoghbmaaA
