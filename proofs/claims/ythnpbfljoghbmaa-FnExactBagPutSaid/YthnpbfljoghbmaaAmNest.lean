/- The calculus: rows whose elements hold rows: a row becomes one; an element's row is lent out and taken back. -/
import Derived.Test.YthnpbfljoghbmaaAmNil
namespace Go.Proofs.YthnpbfljoghbmaaA
set_option autoImplicit false
set_option linter.unusedVariables false
section
variable {P : Program} {C : Ctx} {Q : Exit → St → Prop} {st : St} {a : Act} {w : World} {E E' : Env}
theorem Rel.nest (h : Rel C st a w) {id ty sz : Nat} {rows : List (List Tree)} (ho : st.obj id = some (.arr ty sz rows)) : Rel C (st.setObj id (.nest ty sz (rows.map fun x => x.map .t))) a w := by
  obtain ⟨E, h⟩ := h
  refine ⟨E, { h with objs := fun i o hi => ?_ }⟩
  have hi' : look i (upd id (.nest ty sz (rows.map fun x => x.map NC.t)) st.objs) = some o := hi
  rw [look_upd] at hi'
  split at hi'
  · rename_i e
    subst e
    cases hi'
    rcases h.objs _ _ ho with ⟨h1, rfl⟩ | ⟨g, cap, cur, h1, h2, h3, h4, h5, h6, h7, h8⟩
    · exact .inl ⟨h1, rfl⟩
    · have norow : ∀ p, ¬ isRow (rows.map fun x => x.map NC.t) sz p := fun p hp => by
        obtain ⟨i, j, x, ty, sz', rr, e1, e2, e3⟩ := hp
        rw [List.getElem?_map] at e2
        cases hx : rows[i]? with
        | none => rw [hx] at e2; cases e2
        | some y =>
          rw [hx] at e2
          cases e2
          rw [List.getElem?_map] at e3
          cases hy : y[j]? with
          | none => rw [hy] at e3; cases e3
          | some z => rw [hy] at e3; cases e3
      refine .inr ⟨g, cap, cur, h1, h2, h3, by simpa using h4, h5, h6, fun x hx => ?_, fun i x hx j c hc => ?_, fun p q v v' b hp => absurd hp (norow p)⟩
      · obtain ⟨y, hy, rfl⟩ := List.mem_map.1 hx
        simpa using h7 y hy
      · rw [List.getElem?_map] at hx
        cases hy : rows[i]? with
        | none => rw [hy] at hx; cases hx
        | some y =>
          rw [hy] at hx
          cases hx
          rw [List.getElem?_map] at hc
          cases hz : y[j]? with
          | none => rw [hz] at hc; cases hc
          | some z =>
            rw [hz] at hc
            cases hc
            exact h8 i y hy j z hz
  · exact h.objs _ _ hi'
theorem am_nest {c : Code} (id : Nat) {ty sz : Nat} {rows : List (List Tree)} (ho : st.obj id = some (.arr ty sz rows)) (h : am P C c Q (st.setObj id (.nest ty sz (rows.map fun x => x.map .t)))) : am P C c Q st :=
  am_weak (fun a w hr => Rel.nest hr ho) h

/-! ### Other owners -/
theorem RC.own (hat : ∀ i B, E.at_ i = some B → E'.at_ i = some B) (hno : ∀ b o, E.own b o = none → E'.own b o = none) {v : Value} {x : CV} (h : RC E w v x) : RC E' w v x := by
  have hro : ∀ {v t}, RO w (fun b o => E.own b o = none) v t → RO w (fun b o => E'.own b o = none) v t := fun h => RO.mono (fun b o v hb hc => ⟨hno b o hb, hc⟩) h
  cases x with
  | t x => exact hro h
  | own id lo len => exact h.imp (fun ⟨h1, h2⟩ => ⟨hat _ _ h1, h2⟩) (fun ⟨g, sz, cap, o, h1, h2⟩ => ⟨g, sz, cap, o, hat _ _ h1, h2⟩)
  | ptr id off => obtain ⟨g, base, h1, h2⟩ := h; exact ⟨g, base, hat _ _ h1, h2⟩
  | ifp ty id off => obtain ⟨g, base, h1, h2⟩ := h; exact ⟨g, base, hat _ _ h1, h2⟩
  | ep id i j => obtain ⟨g, sz, cap, h1, h2⟩ := h; exact ⟨g, sz, cap, hat _ _ h1, h2⟩
  | rp xs =>
    obtain ⟨g, o, h1, h2⟩ := h
    exact ⟨g, o, h1, fun j t ht => let ⟨h3, u, h4, h5⟩ := h2 j t ht; ⟨hno _ _ h3, u, h4, hro h5⟩⟩
  | irp ty xs =>
    obtain ⟨g, o, h1, h2⟩ := h
    exact ⟨g, o, h1, fun j t ht => let ⟨h3, u, h4, h5⟩ := h2 j t ht; ⟨hno _ _ h3, u, h4, hro h5⟩⟩
  | gv g o => exact ⟨hno _ _ h.1, h.2.1, h.2.2⟩
  | mp id => obtain ⟨g, h1, h2⟩ := h; exact ⟨g, hat _ _ h1, h2⟩
  | sq f id => obtain ⟨g, gm, h1, h2, h3, h4⟩ := h; exact ⟨g, gm, h1, hno _ _ h2, h3, hat _ _ h4⟩
  | junk => trivial
theorem All2.own (hat : ∀ i B, E.at_ i = some B → E'.at_ i = some B) (hno : ∀ b o, E.own b o = none → E'.own b o = none) : ∀ {vs : List Value} {xs : List CV}, All2 (RC E w) vs xs → All2 (RC E' w) vs xs
  | [], [], _ => trivial
  | _ :: _, _ :: _, h => ⟨h.1.own hat hno, All2.own hat hno h.2⟩
  | [], _ :: _, h => h.elim
  | _ :: _, [], h => h.elim
theorem RT1.own (hat : ∀ i B, E.at_ i = some B → E'.at_ i = some B) (hno : ∀ b o, E.own b o = none → E'.own b o = none) {v : Value} {x : TV} (h : RT1 E w v x) : RT1 E' w v x := by
  cases x with
  | c x => exact RC.own hat hno h
  | agg xs => obtain ⟨vs, h1, h2⟩ := h; exact ⟨vs, h1, h2.own hat hno⟩
  | tup xs => exact h
theorem All2.own1 (hat : ∀ i B, E.at_ i = some B → E'.at_ i = some B) (hno : ∀ b o, E.own b o = none → E'.own b o = none) : ∀ {vs : List Value} {xs : List TV}, All2 (RT1 E w) vs xs → All2 (RT1 E' w) vs xs
  | [], [], _ => trivial
  | _ :: _, _ :: _, h => ⟨h.1.own hat hno, All2.own1 hat hno h.2⟩
  | [], _ :: _, h => h.elim
  | _ :: _, [], h => h.elim
theorem RT.own (hat : ∀ i B, E.at_ i = some B → E'.at_ i = some B) (hno : ∀ b o, E.own b o = none → E'.own b o = none) {v : Value} {x : TV} (h : RT E w v x) : RT E' w v x := by
  cases x with
  | c x => exact RT1.own (x := .c x) hat hno h
  | agg xs => exact RT1.own (x := .agg xs) hat hno h
  | tup xs => obtain ⟨vs, h1, h2⟩ := h; exact ⟨vs, h1, h2.own1 hat hno⟩
theorem RObj.own (hat : ∀ i B, E.at_ i = some B → E'.at_ i = some B) (hno : ∀ b o, E.own b o = none → E'.own b o = none) {id : Nat} {o : AObj} (ho : ∀ b o, E.own b o = some id → E'.own b o = some id) (h : RObj E w id o) : RObj E' w id o := by
  have hro : ∀ {v t}, RO w (fun b o => E.own b o = none) v t → RO w (fun b o => E'.own b o = none) v t := fun h => RO.mono (fun b o v hb hc => ⟨hno b o hb, hc⟩) h
  cases o with
  | cells xs =>
    obtain ⟨g, base, cur, ty, h1, h2, h3, h4⟩ := h
    exact ⟨g, base, cur, ty, hat _ _ h1, h2, h3, fun j x hx => let ⟨k1, v, k2, k3, k4⟩ := h4 j x hx; ⟨ho _ _ k1, v, k2, k3, k4.own hat hno⟩⟩
  | arr ty sz xs =>
    rcases h with ⟨h1, h2⟩ | ⟨g, cap, cur, h1, h2, h3, h4, h5, h6, h7, h8⟩
    · exact .inl ⟨hat _ _ h1, h2⟩
    · exact .inr ⟨g, cap, cur, hat _ _ h1, h2, h3, h4, h5, fun o => ho _ _ (h6 o), h7, fun i x hx j t ht => let ⟨v, k1, k2⟩ := h8 i x hx j t ht; ⟨v, k1, hro k2⟩⟩
  | mp d es => obtain ⟨g, arr, clock, h1, h2, h3, h4, h5⟩ := h; exact ⟨g, arr, clock, hat _ _ h1, h2, h3, fun o => ho _ _ (h4 o), h5⟩
  | nest ty sz xs =>
    have := RNest.mono (f := fun y => y) (fun B hB => hat _ _ hB) ho blk_same (fun v t h => hro h) (fun x hx c hc v y e h => h.own hat hno) h
    rwa [rn_id] at this
theorem idx_inj {i j i' j' sz : Nat} (hj : j < sz) (hj' : j' < sz) (h : i * sz + j = i' * sz + j') : i = i' ∧ j = j' := by
  have h1 : (i * sz + j) / sz = i := by rw [Nat.mul_comm, Nat.mul_add_div (by omega), Nat.div_eq_of_lt hj, Nat.add_zero]
  have h2 : (i' * sz + j') / sz = i' := by rw [Nat.mul_comm, Nat.mul_add_div (by omega), Nat.div_eq_of_lt hj', Nat.add_zero]
  have : i = i' := by rw [← h1, ← h2, h]
  subst this
  exact ⟨rfl, by omega⟩
theorem set2_get {xs : List (List NC)} {x y : List NC} {i j i' j' : Nat} {c d : NC} (hx : xs[i]? = some x) (hj : j < x.length) (h1 : (xs.set i (x.set j c))[i']? = some y) (h2 : y[j']? = some d) :
    (i' = i ∧ j' = j ∧ d = c) ∨ (¬ (i' = i ∧ j' = j) ∧ ∃ z, xs[i']? = some z ∧ z[j']? = some d) := by
  rw [List.getElem?_set] at h1
  split at h1
  · rename_i e
    subst e
    split at h1
    · cases h1
      rw [List.getElem?_set] at h2
      split at h2
      · rename_i e
        subst e
        cases h2
        exact .inl ⟨rfl, rfl, rfl⟩
      · rename_i e
        exact .inr ⟨fun h => e h.2.symm, x, hx, h2⟩
    · cases h1
  · rename_i e
    exact .inr ⟨fun h => e h.1.symm, y, h1, h2⟩
theorem set2_len {xs : List (List NC)} {x : List NC} {i j sz : Nat} {c : NC} (hx : xs[i]? = some x) (h : ∀ x, x ∈ xs → x.length = sz) : ∀ y, y ∈ xs.set i (x.set j c) → y.length = sz := fun y hy => by
  rcases List.mem_or_eq_of_mem_set hy with h1 | h1
  · exact h y h1
  · rw [h1, List.length_set]; exact h x (List.mem_of_getElem? hx)
/-- A row of the call's own that only an element leads to is told there. -/
theorem Rel.abs (h : Rel C st a w) {id i j k ty sz ty' sz' : Nat} {xs : List (List NC)} {x : List NC} {rows : List (List Tree)} (ho : st.obj id = some (.nest ty sz xs)) (hx : xs[i]? = some x) (hc : x[j]? = some (.c (.own k 0 rows.length))) (hk : st.obj k = some (.arr ty' sz' rows)) :
    Rel C ⟨st.tmps, upd id (.nest ty sz (xs.set i (x.set j (.row ty' sz' rows)))) (del k st.objs), st.next⟩ a w := by
  obtain ⟨E, h⟩ := h
  have hid0 := obj_pos h ho
  have hk0 := obj_pos h hk
  have hne : id ≠ k := fun e => by rw [e, hk] at ho; cases ho
  let F : Env := ⟨E.at_, fun b o => if E.own b o = some k then some id else E.own b o⟩
  have hno : ∀ b o, E.own b o = none → F.own b o = none := fun b o h0 => by
    show (if E.own b o = some k then _ else _) = _
    rw [if_neg (by rw [h0]; simp), h0]
  have hkeep : ∀ j, j ≠ k → ∀ b o, E.own b o = some j → F.own b o = some j := fun j hj b o h0 => by
    show (if E.own b o = some k then _ else _) = _
    rw [if_neg (by rw [h0]; simpa using hj), h0]
  have hinto : ∀ b o, E.own b o = some k → F.own b o = some id := fun b o h0 => by
    show (if E.own b o = some k then _ else _) = _
    rw [if_pos h0]
  have hat : ∀ i B, E.at_ i = some B → F.at_ i = some B := fun _ _ h => h
  have hro : ∀ {v t}, RO w (fun b o => E.own b o = none) v t → RO w (fun b o => F.own b o = none) v t := fun h => RO.mono (fun b o v hb hc => ⟨hno b o hb, hc⟩) h
  refine ⟨F, fun t x hx => (h.tmps t x hx).own hat hno, h.size, h.defers, fun q y hy => ?_, h.next, h.zero, h.npos, h.dom, ⟨h.fc.pre, h.fc.os, h.fc.tape, h.fc.output, h.fc.size, h.fc.at_, h.fc.blk, fun b o hb h0 => ?_, fun b o hb => hno _ _ (h.fc.fresh b o hb), fun b o he => ?_⟩⟩
  · have hy' : look q (upd id (.nest ty sz (xs.set i (x.set j (.row ty' sz' rows)))) (del k st.objs)) = some y := hy
    rw [look_upd] at hy'
    split at hy'
    · rename_i e
      subst e
      cases hy'
      rcases h.objs _ _ ho with ⟨_, e⟩ | ⟨g, cap, cur, h1, h2, h3, h4, h5, h6, h7, h8, h9⟩
      · subst e; simp at hx
      obtain ⟨v0, m1, m2, m3⟩ := h8 i x hx j _ hc
      have hjl : j < x.length := (List.getElem?_eq_some_iff.1 hc).1
      have hrow : RRow F w q ty' sz' rows g v0 ∧ ∀ b, blkOf v0 = some b → ∀ o, E.own b o = some k := by
        rcases m3 with ⟨n1, rfl, -, n2⟩ | ⟨gk, szk, capk, ok, n1, rfl, n2, n3⟩
        · exact ⟨.inl ⟨rfl, List.eq_nil_of_length_eq_zero n2⟩, fun b hb => by cases hb⟩
        · rcases h.objs _ _ hk with ⟨e1, _⟩ | ⟨g', cap', cur', e1, e2, e3, e4, e5, e6, e7, e8⟩
          · rw [n1] at e1; cases e1
          rw [n1] at e1
          cases e1
          refine ⟨.inr ⟨gk, capk, cur', ok, rfl, fun hp => by rw [n3 hp, Nat.zero_mul], fun e => ?_, e2, e3, e4, e5, fun o => hinto _ _ (e6 o), e7, fun i x hx j t ht => let ⟨u, k1, k2⟩ := e8 i x hx j t ht; ⟨u, k1, hro k2⟩⟩, fun b hb o => ?_⟩
          · subst e
            have := h6 0
            rw [e6 0] at this
            exact hne (Option.some.inj this).symm
          · cases hb
            exact e6 o
      have hold : ∀ v c, RNC E w q g v c → RNC F w q g v c := fun v c hv => by
        cases c with
        | t t => exact hro hv
        | c x => exact ⟨hv.1, hv.2.own hat hno⟩
        | row a b rr =>
          rcases hv with hv | ⟨g', cap', cu, o', q1, q0, q2, q3, q4, q5, q6, q7, q8, q9⟩
          · exact .inl hv
          · exact .inr ⟨g', cap', cu, o', q1, q0, q2, q3, q4, q5, q6, fun o => hkeep _ hne _ _ (q7 o), q8, fun i x hx j t ht => let ⟨u, k1, k2⟩ := q9 i x hx j t ht; ⟨u, k1, hro k2⟩⟩
      have hrowown : ∀ p v b, isRow xs sz p → cur[p]? = some v → blkOf v = some b → E.own b 0 = some q := fun p v b hp hv hb => by
        obtain ⟨i', j', x', a', b', r', e1, e2, e3⟩ := hp
        obtain ⟨u, e4, e5⟩ := h8 i' x' e2 j' _ e3
        rw [← e1, hv] at e4
        cases e4
        rcases e5 with ⟨e6, _⟩ | ⟨g', cap', cu, o', q1, q0, q2, q3, q4, q5, q6, q7, _⟩
        · rw [e6] at hb; cases hb
        · rw [q1] at hb; cases hb; exact q7 0
      have hcase : ∀ p, isRow (xs.set i (x.set j (.row ty' sz' rows))) sz p → p = i * sz + j ∨ isRow xs sz p := fun p hp => by
        obtain ⟨i', j', x', a', b', r', e1, e2, e3⟩ := hp
        rcases set2_get hx hjl e2 e3 with ⟨rfl, rfl, _⟩ | ⟨_, z, z1, z2⟩
        · exact .inl e1
        · exact .inr ⟨i', j', z, a', b', r', e1, z1, z2⟩
      refine .inr ⟨g, cap, cur, h1, h2, h3, by rw [List.length_set]; exact h4, h5, fun o => hkeep _ hne _ _ (h6 o), set2_len hx h7, fun i' x' hx' j' c' hc' => ?_, fun p r v v' b hp hr hv hv' hb hb' => ?_⟩
      · rcases set2_get hx hjl hx' hc' with ⟨rfl, rfl, rfl⟩ | ⟨_, z, z1, z2⟩
        · exact ⟨v0, m1, hrow.1⟩
        · obtain ⟨u, u1, u2⟩ := h8 i' z z1 j' c' z2
          exact ⟨u, u1, hold _ _ u2⟩
      · have hcl : ∀ p r v v' b, p = i * sz + j → isRow xs sz r → cur[p]? = some v → cur[r]? = some v' → blkOf v = some b → blkOf v' = some b → p = r := fun p r v v' b hp hr hv hv' hb hb' => by
          subst hp
          rw [m1] at hv
          cases hv
          have e1 := hrow.2 b hb 0
          rw [hrowown r v' b hr hv' hb'] at e1
          exact absurd (Option.some.inj e1) hne
        rcases hcase p hp with e1 | e1
        · rcases hcase r hr with e2 | e2
          · rw [e1, e2]
          · exact hcl p r v v' b e1 e2 hv hv' hb hb'
        · rcases hcase r hr with e2 | e2
          · exact (hcl r p v' v b e2 e1 hv' hv hb' hb).symm
          · exact h9 p r v v' b e1 e2 hv hv' hb hb'
    · rename_i e
      rw [look_del] at hy'
      split at hy'
      · cases hy'
      · rename_i e'
        exact (h.objs q y hy').own hat hno (hkeep q e')
  · have h4 := h.fc.keep b o hb h0
    show (if E.own b o = some k then _ else _) = _
    rw [if_neg (by rw [h4]; rcases h0 with h0 | h0 <;> rw [h0] <;> simp; omega), h4]
  · have h' : (if E.own b o = some k then some id else E.own b o) = some 0 := he
    split at h'
    · exact absurd (Option.some.inj h') hid0
    · exact h.fc.pos b o h'
theorem am_abs {c : Code} (id i j k : Nat) {ty sz ty' sz' n : Nat} {xs : List (List NC)} {x : List NC} {rows : List (List Tree)} (ho : st.obj id = some (.nest ty sz xs)) (hx : xs[i]? = some x) (hc : x[j]? = some (.c (.own k 0 n))) (hk : st.obj k = some (.arr ty' sz' rows)) (hn : n = rows.length)
    (h : am P C c Q ⟨st.tmps, upd id (.nest ty sz (xs.set i (x.set j (.row ty' sz' rows)))) (del k st.objs), st.next⟩) : am P C c Q st := by
  subst hn
  exact am_weak (fun a w hr => Rel.abs hr ho hx hc hk) h
/-- An element's row gets a name of its own. -/
theorem Rel.lend (h : Rel C st a w) {id i j ty sz ty' sz' : Nat} {xs : List (List NC)} {x : List NC} {rows : List (List Tree)} (ho : st.obj id = some (.nest ty sz xs)) (hx : xs[i]? = some x) (hc : x[j]? = some (.row ty' sz' rows)) :
    Rel C ((st.new (.arr ty' sz' rows)).setObj id (.nest ty sz (xs.set i (x.set j (.c (.own st.next 0 rows.length)))))) a w := by
  obtain ⟨E, h⟩ := h
  have hid0 := obj_pos h ho
  have hnp := h.npos
  rcases h.objs _ _ ho with ⟨_, e⟩ | ⟨g, cap, cur, h1, h2, h3, h4, h5, h6, h7, h8, h9⟩
  · subst e; simp at hx
  obtain ⟨v0, m1, m2⟩ := h8 i x hx j _ hc
  have hjl : j < x.length := (List.getElem?_eq_some_iff.1 hc).1
  have hidn : id ≠ st.next := fun e => by rw [e, h.next _ (Nat.le_refl _)] at h1; cases h1
  obtain ⟨B, og, hog, hv1, hB, hob⟩ : ∃ (B : Base) (og : Option Nat), (∀ b, og = some b → (∀ o, E.own b o = some id) ∧ b ≠ g ∧ b < w.heap.size ∧ blkOf v0 = some b) ∧ v0.oneCell' = true ∧
      ((B = .nil ∧ v0 = .slice none 0 0 ∧ rows = []) ∨ ∃ g' cap' o', B = .arr g' sz' cap' ∧ v0 = .slice (some ⟨g', o', none⟩) rows.length cap' ∧ (0 < cap' → o' = 0) ∧ rows.length ≤ cap') ∧
      ((B = .nil ∧ rows = []) ∨ ∃ g' cap' cu, og = some g' ∧ B = .arr g' sz' cap' ∧ w.heap[g']? = some (.cells cu ty' (0, 0)) ∧ cu.size = cap' * sz' ∧ rows.length ≤ cap' ∧ cap' ≤ maxLen ∧ (∀ x, x ∈ rows → x.length = sz') ∧ ∀ i x, rows[i]? = some x → ∀ j t, x[j]? = some t → ∃ u, cu[i * sz' + j]? = some u ∧ RO w (fun b o => E.own b o = none) u t) := by
    rcases m2 with ⟨rfl, rfl⟩ | ⟨g', cap', cu, o', rfl, q0, q2, q3, q4, q5, q6, q7, q8, q9⟩
    · exact ⟨.nil, none, (fun b hb => by cases hb), rfl, .inl ⟨rfl, rfl, rfl⟩, .inl ⟨rfl, rfl⟩⟩
    · refine ⟨.arr g' sz' cap', some g', fun b hb => ?_, rfl, .inr ⟨g', cap', o', rfl, rfl, q0, q5⟩, .inr ⟨g', cap', cu, rfl, rfl, q3, q4, q5, q6, q8, q9⟩⟩
      cases hb
      exact ⟨q7, q2, (Array.getElem?_eq_some_iff.1 q3).1, rfl⟩
  let F : Env := ⟨fun k => if k = st.next then some B else E.at_ k, fun b o => if og = some b then some st.next else E.own b o⟩
  have hat : ∀ i B, E.at_ i = some B → F.at_ i = some B := fun i B' hi => by
    show (if i = st.next then _ else _) = _
    rw [if_neg (fun e => by subst e; rw [h.next _ (Nat.le_refl _)] at hi; cases hi)]
    exact hi
  have hother : ∀ b o, E.own b o ≠ some id → F.own b o = E.own b o := fun b o h0 => by
    show (if og = some b then _ else _) = _
    rw [if_neg (fun e => h0 ((hog b e).1 o))]
  have hno : ∀ b o, E.own b o = none → F.own b o = none := fun b o h0 => by rw [hother b o (by rw [h0]; simp), h0]
  have hoff : ∀ b, og ≠ some b → ∀ o, F.own b o = E.own b o := fun b h0 o => by
    show (if og = some b then _ else _) = _
    rw [if_neg h0]
  have hro : ∀ {v t}, RO w (fun b o => E.own b o = none) v t → RO w (fun b o => F.own b o = none) v t := fun h => RO.mono (fun b o v hb hc => ⟨hno b o hb, hc⟩) h
  refine ⟨F, fun t x hx => (h.tmps t x hx).own hat hno, h.size, h.defers, fun q y hy => ?_, fun q hq => ?_, ?_, Nat.succ_pos _, h.dom, ⟨h.fc.pre, h.fc.os, h.fc.tape, h.fc.output, h.fc.size, fun i B hB => hat _ _ (h.fc.at_ i B hB), h.fc.blk, fun b o hb h0 => ?_, fun b o hb => hno _ _ (h.fc.fresh b o hb), fun b o he => ?_⟩⟩
  · have hy' : look q (upd id (.nest ty sz (xs.set i (x.set j (.c (.own st.next 0 rows.length))))) (upd st.next (.arr ty' sz' rows) st.objs)) = some y := hy
    rw [look_upd, look_upd] at hy'
    split at hy'
    · rename_i e
      subst e
      cases hy'
      have hrowp : ∀ p, isRow (xs.set i (x.set j (.c (.own st.next 0 rows.length)))) sz p → isRow xs sz p ∧ p ≠ i * sz + j := fun p hp => by
        obtain ⟨i', j', x', a', b', r', e1, e2, e3⟩ := hp
        rcases set2_get hx hjl e2 e3 with ⟨_, _, e⟩ | ⟨hn, z, z1, z2⟩
        · cases e
        · refine ⟨⟨i', j', z, a', b', r', e1, z1, z2⟩, fun e => hn ?_⟩
          rw [e1] at e
          have l1 : j' < sz := by rw [← h7 z (List.mem_of_getElem? z1)]; exact (List.getElem?_eq_some_iff.1 z2).1
          have l2 : j < sz := by rw [← h7 x (List.mem_of_getElem? hx)]; exact hjl
          exact idx_inj l1 l2 e
      have hself : isRow xs sz (i * sz + j) := ⟨i, j, x, ty', sz', rows, rfl, hx, hc⟩
      refine .inr ⟨g, cap, cur, hat _ _ h1, h2, h3, by rw [List.length_set]; exact h4, h5, fun o => ?_, set2_len hx h7, fun i' x' hx' j' c' hc' => ?_, fun p r v v' b hp hr hv hv' hb hb' => h9 p r v v' b (hrowp p hp).1 (hrowp r hr).1 hv hv' hb hb'⟩
      · rw [hoff g (fun e => (hog g e).2.1 rfl), h6]
      · rcases set2_get hx hjl hx' hc' with ⟨rfl, rfl, rfl⟩ | ⟨hn, z, z1, z2⟩
        · refine ⟨v0, m1, hv1, ?_⟩
          rcases hB with ⟨rfl, rfl, rfl⟩ | ⟨g', cap', o', rfl, rfl, k1, k2⟩
          · exact .inl ⟨if_pos rfl, rfl, rfl, rfl⟩
          · exact .inr ⟨g', sz', cap', o', if_pos rfl, by rw [Nat.sub_zero], by omega, fun hp => by rw [k1 hp, Nat.zero_mul]⟩
        · obtain ⟨u, u1, u2⟩ := h8 i' z z1 j' c' z2
          refine ⟨u, u1, ?_⟩
          cases c' with
          | t t => exact hro u2
          | c x => exact ⟨u2.1, u2.2.own hat hno⟩
          | row a b rr =>
            rcases u2 with hv | ⟨g', cap', cu, o', q1, q0, q2, q3, q4, q5, q6, q7, q8, q9⟩
            · exact .inl hv
            · have hr2 : isRow xs sz (i' * sz + j') := ⟨i', j', z, a, b, rr, rfl, z1, z2⟩
              have hgn : og ≠ some g' := fun e => by
                have e1 := h9 _ _ u v0 g' hr2 hself u1 m1 (by rw [q1]; rfl) (hog g' e).2.2.2
                have l1 : j' < sz := by rw [← h7 z (List.mem_of_getElem? z1)]; exact (List.getElem?_eq_some_iff.1 z2).1
                have l2 : j < sz := by rw [← h7 x (List.mem_of_getElem? hx)]; exact hjl
                exact hn (idx_inj l1 l2 e1)
              exact .inr ⟨g', cap', cu, o', q1, q0, q2, q3, q4, q5, q6, fun o => by rw [hoff g' hgn, q7], q8, fun i x hx j t ht => let ⟨u, k1, k2⟩ := q9 i x hx j t ht; ⟨u, k1, hro k2⟩⟩
    · rename_i e
      split at hy'
      · rename_i e'
        subst e'
        cases hy'
        rcases hob with ⟨rfl, rfl⟩ | ⟨g', cap', cu, rfl, rfl, k1, k2, k3, k4, k5, k6⟩
        · exact .inl ⟨if_pos rfl, rfl⟩
        · exact .inr ⟨g', cap', cu, if_pos rfl, k1, k2, k3, k4, fun o => if_pos rfl, k5, fun i x hx j t ht => let ⟨u, n1, n2⟩ := k6 i x hx j t ht; ⟨u, n1, hro n2⟩⟩
      · exact (h.objs q y hy').own hat hno fun b o hb => by rw [hother b o (by rw [hb]; simpa using e), hb]
  · have hq' : st.next + 1 ≤ q := hq
    show (if q = st.next then _ else _) = _
    rw [if_neg (by omega)]
    exact h.next q (by omega)
  · show (if 0 = st.next then _ else _) = _
    rw [if_neg (by omega)]
    exact h.zero
  · have h4 := h.fc.keep b o hb h0
    rw [hother b o (by rw [h4]; rcases h0 with h0 | h0 <;> rw [h0] <;> simp; omega), h4]
  · have h' : (if og = some b then some st.next else E.own b o) = some 0 := he
    split at h'
    · have := Option.some.inj h'; omega
    · exact h.fc.pos b o h'
theorem am_lend {c : Code} (id i j : Nat) {ty sz ty' sz' : Nat} {xs : List (List NC)} {x : List NC} {rows : List (List Tree)} (ho : st.obj id = some (.nest ty sz xs)) (hx : xs[i]? = some x) (hc : x[j]? = some (.row ty' sz' rows))
    (h : am P C c Q ((st.new (.arr ty' sz' rows)).setObj id (.nest ty sz (xs.set i (x.set j (.c (.own st.next 0 rows.length))))))) : am P C c Q st :=
  am_weak (fun a w hr => Rel.lend hr ho hx hc) h
theorem amR_nest {c : Code} {m : Nat} (id : Nat) {ty sz : Nat} {rows : List (List Tree)} (ho : st.obj id = some (.arr ty sz rows)) (h : amR P C c Q m (st.setObj id (.nest ty sz (rows.map fun x => x.map .t)))) : amR P C c Q m st := by
  cases m with
  | zero => exact h.elim
  | succ m => exact am_nest id ho h
theorem amR_abs {c : Code} {m : Nat} (id i j k : Nat) {ty sz ty' sz' n : Nat} {xs : List (List NC)} {x : List NC} {rows : List (List Tree)} (ho : st.obj id = some (.nest ty sz xs)) (hx : xs[i]? = some x) (hc : x[j]? = some (.c (.own k 0 n))) (hk : st.obj k = some (.arr ty' sz' rows)) (hn : n = rows.length)
    (h : amR P C c Q m ⟨st.tmps, upd id (.nest ty sz (xs.set i (x.set j (.row ty' sz' rows)))) (del k st.objs), st.next⟩) : amR P C c Q m st := by
  cases m with
  | zero => exact h.elim
  | succ m => exact am_abs id i j k ho hx hc hk hn h
theorem amR_lend {c : Code} {m : Nat} (id i j : Nat) {ty sz ty' sz' : Nat} {xs : List (List NC)} {x : List NC} {rows : List (List Tree)} (ho : st.obj id = some (.nest ty sz xs)) (hx : xs[i]? = some x) (hc : x[j]? = some (.row ty' sz' rows))
    (h : amR P C c Q m ((st.new (.arr ty' sz' rows)).setObj id (.nest ty sz (xs.set i (x.set j (.c (.own st.next 0 rows.length))))))) : amR P C c Q m st := by
  cases m with
  | zero => exact h.elim
  | succ m => exact am_lend id i j ho hx hc h
end
attribute [go_sem] del upd List.set_cons_zero List.set_cons_succ
end Go.Proofs.YthnpbfljoghbmaaA
