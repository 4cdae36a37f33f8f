/- The calculus: a row of the call's own, told from here on as one that is only read. -/
import Derived.Test.YthnpbfljoghbmaaGFrz
namespace Go.Proofs.YthnpbfljoghbmaaA
set_option autoImplicit false
set_option linter.unusedVariables false
def CV.frz (id sz : Nat) (rows : List (List Tree)) : CV → CV
  | .own i lo len => if i = id then (if lo = 0 ∧ len = rows.length then .t (.sl sz rows) else .junk) else .own i lo len
  | .ep i a b => if i = id then .junk else .ep i a b
  | .ptr i o => if i = id then .junk else .ptr i o
  | .ifp ty i o => if i = id then .junk else .ifp ty i o
  | .mp i => if i = id then .junk else .mp i
  | .sq f i => if i = id then .junk else .sq f i
  | x => x
def TV.frz1 (id sz : Nat) (rows : List (List Tree)) : TV → TV
  | .c x => .c (x.frz id sz rows)
  | .agg xs => .agg (xs.map (CV.frz id sz rows))
  | .tup xs => .tup xs
def TV.frz (id sz : Nat) (rows : List (List Tree)) : TV → TV
  | .tup xs => .tup (xs.map (TV.frz1 id sz rows))
  | x => x.frz1 id sz rows
def AObj.frz (id sz : Nat) (rows : List (List Tree)) : AObj → AObj
  | .cells xs => .cells (xs.map (CV.frz id sz rows))
  | .nest ty z xs => .nest ty z (xs.map fun x => x.map (NC.rn (CV.frz id sz rows)))
  | x => x
def St.frz (st : St) (id sz : Nat) (rows : List (List Tree)) : St :=
  ⟨st.tmps.map fun p => (p.1, p.2.frz id sz rows), (del id st.objs).map fun p => (p.1, p.2.frz id sz rows), st.next⟩
theorem look_map {α β : Type} (f : α → β) (t : Nat) : ∀ (l : List (Nat × α)) (y : β), look t (l.map fun p => (p.1, f p.2)) = some y → ∃ x, look t l = some x ∧ y = f x
  | [], y, h => by simp [look] at h
  | (s, x) :: l, y, h => by
    simp only [List.map_cons, look] at h ⊢
    split at h
    · rename_i e; cases h; exact ⟨x, by rw [if_pos e], rfl⟩
    · rename_i e
      obtain ⟨x', h1, h2⟩ := look_map f t l y h
      exact ⟨x', by rw [if_neg e]; exact h1, h2⟩
section
variable {P : Program} {C : Ctx} {Q : Exit → St → Prop} {st : St} {a : Act} {w : World}
def Env.frz (E : Env) (id : Nat) : Env := ⟨fun i => if i = id then none else E.at_ i, fun b o => if E.own b o = some id then none else E.own b o⟩
theorem Env.frz_none {E : Env} {id b o : Nat} (h : E.own b o = none) : (E.frz id).own b o = none := by
  show (if E.own b o = some id then none else E.own b o) = none
  rw [if_neg (by rw [h]; simp), h]
theorem Env.frz_at {E : Env} {id i : Nat} (h : i ≠ id) : (E.frz id).at_ i = E.at_ i := by
  show (if i = id then none else E.at_ i) = E.at_ i
  rw [if_neg h]
theorem Env.frz_own {E : Env} {id i b o : Nat} (h : i ≠ id) (hq : E.own b o = some i) : (E.frz id).own b o = some i := by
  show (if E.own b o = some id then none else E.own b o) = some i
  rw [if_neg (by rw [hq]; simp [h]), hq]
theorem RO.frz {E : Env} {id : Nat} {v : Value} {t : Tree} (h : RO w (fun b o => E.own b o = none) v t) : RO w (fun b o => (E.frz id).own b o = none) v t :=
  RO.mono (fun b o u hb hc => ⟨Env.frz_none hb, hc⟩) h
theorem RC.frz {E : Env} {id ty sz : Nat} {rows : List (List Tree)} (hr : RObj E w id (.arr ty sz rows)) {v : Value} {x : CV} (h : RC E w v x) : RC (E.frz id) w v (x.frz id sz rows) := by
  cases x with
  | t x => exact RO.frz h
  | own i lo len =>
    simp only [CV.frz]
    split
    · rename_i e
      subst e
      split
      · rename_i e
        obtain ⟨rfl, rfl⟩ := e
        rcases h with ⟨g1, rfl, -, g2⟩ | ⟨g, sz', cap, o, g1, rfl, g2, g3⟩
        · have : rows = [] := List.eq_nil_of_length_eq_zero g2
          subst this
          exact RO.sl none 0 sz [] 0 0 (fun _ _ => .bool false) (Nat.le_refl _) (Nat.zero_le _) (fun x hx => by cases hx) (fun h => (h rfl).elim) (fun i j hi => absurd hi (Nat.not_lt_zero _)) (fun i x hx => by simp at hx)
        · rcases hr with ⟨k1, _⟩ | ⟨g', cap', cur, k1, k2, k3, k4, k5, k6, k7, k8⟩
          · rw [g1] at k1; cases k1
          rw [g1] at k1; cases k1
          have ho : rows ≠ [] → o = 0 := fun hne => by
            have : 0 < rows.length := by
              cases rows with
              | nil => exact absurd rfl hne
              | cons _ _ => simp
            rw [g3 (by omega), Nat.zero_mul]
          have hcell : ∀ i j, i < rows.length → j < sz → ∃ u, cur[i * sz + j]? = some u := fun i j hi hj => by
            have h9 : i * sz + sz ≤ cap * sz := by
              have := Nat.mul_le_mul_right sz (show i + 1 ≤ cap by omega)
              rwa [Nat.add_mul, Nat.one_mul] at this
            exact ⟨_, Array.getElem?_eq_getElem (by omega)⟩
          rw [Nat.sub_zero]
          refine RO.sl (some ⟨g, o, none⟩) cap sz rows g 0 (fun i j => (cur[i * sz + j]?).getD (.bool false)) k4 (by omega) k7 (fun hne => by rw [ho hne]) (fun i j hi hj => ?_) (fun q x hx j t ht => ?_)
          · refine ⟨?_, ?_⟩
            · simp only [Env.frz]
              rw [if_pos (k6 _)]
            · obtain ⟨u, hu⟩ := hcell _ _ hi hj
              rw [cur_cell k2, Nat.zero_add, hu]
              rfl
          · obtain ⟨u, h10, h11⟩ := k8 q x hx j t ht
            simp only [h10, Option.getD_some]
            exact RO.frz h11
      · exact True.intro
    · rename_i e
      rcases h with ⟨g1, g2⟩ | ⟨g, sz', cap, o, g1, g2⟩
      · exact .inl ⟨by rw [Env.frz_at e]; exact g1, g2⟩
      · exact .inr ⟨g, sz', cap, o, by rw [Env.frz_at e]; exact g1, g2⟩
  | ptr i o =>
    simp only [CV.frz]
    split
    · exact True.intro
    · rename_i e
      obtain ⟨g, base, g1, g2⟩ := h
      exact ⟨g, base, by rw [Env.frz_at e]; exact g1, g2⟩
  | ifp ty i o =>
    simp only [CV.frz]
    split
    · exact True.intro
    · rename_i e
      obtain ⟨g, base, g1, g2⟩ := h
      exact ⟨g, base, by rw [Env.frz_at e]; exact g1, g2⟩
  | ep i a b =>
    simp only [CV.frz]
    split
    · exact True.intro
    · rename_i e
      obtain ⟨g, sz', cap, g1, g2⟩ := h
      exact ⟨g, sz', cap, by rw [Env.frz_at e]; exact g1, g2⟩
  | rp xs =>
    obtain ⟨g, o, g1, g2⟩ := h
    refine ⟨g, o, g1, fun j t ht => ?_⟩
    obtain ⟨q1, u, q2, q3⟩ := g2 j t ht
    exact ⟨Env.frz_none q1, u, q2, RO.frz q3⟩
  | irp ty xs =>
    obtain ⟨g, o, g1, g2⟩ := h
    refine ⟨g, o, g1, fun j t ht => ?_⟩
    obtain ⟨q1, u, q2, q3⟩ := g2 j t ht
    exact ⟨Env.frz_none q1, u, q2, RO.frz q3⟩
  | gv g o =>
    obtain ⟨q1, q2, q3⟩ := h
    exact ⟨Env.frz_none q1, q2, q3⟩
  | mp i =>
    simp only [CV.frz]
    split
    · exact True.intro
    · rename_i e
      obtain ⟨g, g1, g2⟩ := h
      exact ⟨g, by rw [Env.frz_at e]; exact g1, g2⟩
  | sq f i =>
    simp only [CV.frz]
    split
    · exact True.intro
    · rename_i e
      obtain ⟨g, gm, g1, g2, g3, g4⟩ := h
      exact ⟨g, gm, g1, Env.frz_none g2, g3, by rw [Env.frz_at e]; exact g4⟩
  | junk => exact True.intro
theorem all2_frz {α β : Type} {R R' : α → β → Prop} (f : β → β) (h : ∀ a b, R a b → R' a (f b)) : ∀ {vs : List α} {xs : List β}, All2 R vs xs → All2 R' vs (xs.map f)
  | [], [], _ => trivial
  | v :: vs, x :: xs, k => ⟨h _ _ k.1, all2_frz f h k.2⟩
  | [], _ :: _, k => k.elim
  | _ :: _, [], k => k.elim
theorem RT1.frz {E : Env} {id ty sz : Nat} {rows : List (List Tree)} (hr : RObj E w id (.arr ty sz rows)) {v : Value} {x : TV} (h : RT1 E w v x) : RT1 (E.frz id) w v (x.frz1 id sz rows) := by
  cases x with
  | c x => exact RC.frz hr h
  | agg xs =>
    obtain ⟨vs, h1, h2⟩ := h
    exact ⟨vs, h1, all2_frz _ (fun a b hab => RC.frz hr hab) h2⟩
  | tup xs => exact h.elim
theorem RT.frz {E : Env} {id ty sz : Nat} {rows : List (List Tree)} (hr : RObj E w id (.arr ty sz rows)) {v : Value} {x : TV} (h : RT E w v x) : RT (E.frz id) w v (x.frz id sz rows) := by
  cases x with
  | c x => exact RC.frz hr h
  | agg xs => exact RT1.frz (x := .agg xs) hr h
  | tup xs =>
    obtain ⟨vs, h1, h2⟩ := h
    exact ⟨vs, h1, all2_frz _ (fun a b hab => RT1.frz hr hab) h2⟩
theorem Rel.frz (h : Rel C st a w) {id ty sz : Nat} {rows : List (List Tree)} (ho : st.obj id = some (.arr ty sz rows)) (hid : C.n0 ≤ id) (h0 : id ≠ 0) : Rel C (st.frz id sz rows) a w := by
  obtain ⟨E, h⟩ := h
  have hr := h.objs _ _ ho
  refine ⟨E.frz id, ?_, h.size, h.defers, ?_, ?_, ?_, h.npos, h.dom, ?_⟩
  · intro t x hx
    obtain ⟨y, h1, rfl⟩ := look_map (TV.frz id sz rows) t _ _ hx
    exact RT.frz hr (h.tmps t y h1)
  · intro i o hi
    obtain ⟨y, h1, rfl⟩ := look_map (AObj.frz id sz rows) i _ _ hi
    rw [look_del] at h1
    split at h1
    · cases h1
    rename_i e
    have hy := h.objs i y h1
    cases y with
    | cells xs =>
      obtain ⟨g, base, cur, ty', k1, k2, k3, k4⟩ := hy
      refine ⟨g, base, cur, ty', by rw [Env.frz_at e]; exact k1, k2, by simpa using k3, fun j x hx => ?_⟩
      rw [List.getElem?_map] at hx
      cases hz : xs[j]? with
      | none => rw [hz] at hx; cases hx
      | some z =>
        rw [hz] at hx
        cases hx
        obtain ⟨q1, v', q2, q3, q4⟩ := k4 j z hz
        exact ⟨Env.frz_own e q1, v', q2, q3, RC.frz hr q4⟩
    | arr ty' sz' xs =>
      rcases hy with ⟨k1, k2⟩ | ⟨g, cap, cur, k1, k2, k3, k4, k5, k6, k7, k8⟩
      · exact .inl ⟨by rw [Env.frz_at e]; exact k1, k2⟩
      · refine .inr ⟨g, cap, cur, by rw [Env.frz_at e]; exact k1, k2, k3, k4, k5, fun o => Env.frz_own e (k6 o), k7, fun q x hx j t ht => ?_⟩
        obtain ⟨v, h10, h11⟩ := k8 q x hx j t ht
        exact ⟨v, h10, RO.frz h11⟩
    | mp d es =>
      obtain ⟨g, arr, clock, k1, k2, k3, k4, k5⟩ := hy
      exact ⟨g, arr, clock, by rw [Env.frz_at e]; exact k1, k2, k3, fun o => Env.frz_own e (k4 o), k5⟩
    | nest ty' sz' xs => exact RNest.mono (fun B hB => by rw [Env.frz_at e]; exact hB) (fun b o ho => Env.frz_own e ho) blk_same (fun v t hv => RO.frz hv) (fun x hx c hc v y e hy => RC.frz hr hy) hy
  · intro i hi
    show (if i = id then none else E.at_ i) = none
    split
    · rfl
    · exact h.next i hi
  · show (if 0 = id then none else E.at_ 0) = none
    split
    · rfl
    · exact h.zero
  · have hfc := h.fc
    refine ⟨hfc.pre, hfc.os, hfc.tape, hfc.output, hfc.size, fun i B hB => ?_, hfc.blk, fun b o hb hx => ?_, fun b o hb => Env.frz_none (hfc.fresh b o hb), fun b o he => ?_⟩
    · rw [Env.frz_at]
      · exact hfc.at_ i B hB
      · intro e
        subst e
        rw [h.dom i hid] at hB
        cases hB
    · have h5 := hfc.keep b o hb hx
      show (if E.own b o = some id then none else E.own b o) = _
      rw [if_neg (by rw [h5]; rcases hx with hx | hx <;> rw [hx] <;> simp [h0.symm]), h5]
    · have h' : (if E.own b o = some id then none else E.own b o) = some 0 := he
      split at h'
      · cases h'
      · exact hfc.pos b o h'
theorem am_frz {c : Code} (id : Nat) {ty sz : Nat} {rows : List (List Tree)} (ho : st.obj id = some (.arr ty sz rows)) (hid : C.n0 ≤ id) (h0 : id ≠ 0) (h : am P C c Q (st.frz id sz rows)) : am P C c Q st :=
  am_weak (fun a w hr => Rel.frz hr ho hid h0) h
end
attribute [go_sem] St.frz CV.frz TV.frz TV.frz1 AObj.frz
end Go.Proofs.YthnpbfljoghbmaaA
