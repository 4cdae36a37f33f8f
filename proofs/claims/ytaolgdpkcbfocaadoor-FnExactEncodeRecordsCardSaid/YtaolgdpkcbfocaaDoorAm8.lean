/- The calculus, eighth part: append. -/
import Derived.Test.YtaolgdpkcbfocaaDoorAm7
namespace Go.Proofs.YtaolgdpkcbfocaaDoorA
set_option autoImplicit false
set_option linter.unusedVariables false

section
variable {P : Program} {Γ : Nat → Option Row} {C : Ctx} {Q : Exit → St → Prop} {st : St} {o : Oper} {K : St → Prop} {E E' : Env} {a : Act} {w w' : World} {ch : Nat → Prop}

theorem Step.env (s : Step E E w w' ch) (hat : ∀ id B, E.at_ id = some B → E'.at_ id = some B) (hn : ∀ b o, E.own b o = none → E'.own b o = none) (hs : ∀ b o id, E.own b o = some id → ¬ ch id → E'.own b o = some id) (hp : ∀ b o, E'.own b o = some 0 → E.own b o = some 0) : Step E E' w w' ch :=
  { s with pos := (fun b o h => hp b o h), at_ := hat, none_ := fun b o _ h => hn b o h, some_ := hs, fresh := fun b o h => hn b o (s.fresh b o h) }
theorem Step.drew (hf : ∀ b o, w.heap.size ≤ b → E.own b o = none) : Step E E w w.drew (fun _ => False) :=
  ⟨rfl, rfl, rfl, Nat.le_refl _, fun h => h, fun _ _ h => h, fun _ _ _ h => h, fun _ _ _ h _ => h, fun _ _ _ h _ => h, fun _ cur _ _ h => ⟨cur, h, rfl⟩, fun _ _ _ => rfl, hf, fun _ _ h => h⟩
theorem RelE.drew (h : RelE E C st a w) : RelE E C st a w.drew := h.step (Step.drew h.fc.fresh) rfl h.next h.zero h.npos fun id o ho => .inl ⟨ho, fun h => h⟩
theorem obj_del (st : St) (id k : Nat) : (st.delObj id).obj k = if k = id then none else st.obj k := by simp [St.delObj, St.obj, look_del]
theorem RelE.delObj (h : RelE E C st a w) (id : Nat) : RelE E C (st.delObj id) a w :=
  ⟨h.tmps, h.size, h.defers, fun k x hx => h.objs k x (by rw [obj_del] at hx; split at hx; · cases hx
                                                          · exact hx), h.next, h.zero, h.npos, h.dom, h.fc⟩

/-- Where an append goes to: the row that it takes (if any), what stands in it. -/
def dstOf (st : St) (e sz : Nat) : TV → Option (Option Nat × List (List Tree))
  | .c (.t (.v (.slice none 0 0))) => some (none, [])
  | .c (.own id lo len) => match st.obj id with
    | some (.arr ty s xs) => if lo = 0 ∧ ty = e ∧ s = sz ∧ len ≤ xs.length then some (some id, xs.take len) else none
    | _ => none
  | _ => none
def St.delOpt (st : St) : Option Nat → St
  | none => st
  | some id => st.delObj id
theorem delOpt_next (st : St) (x : Option Nat) : (st.delOpt x).next = st.next := by cases x <;> rfl
theorem RelE.delOpt (h : RelE E C st a w) (x : Option Nat) : RelE E C (st.delOpt x) a w := by
  cases x with
  | none => exact h
  | some id => exact h.delObj id

/-- A row that is no row yet. -/
theorem RelE.newNil (h : RelE E C st a w) (ty sz : Nat) : RelE ⟨fun k => if k = st.next then some .nil else E.at_ k, E.own⟩ C (st.new (.arr ty sz [])) a w := by
  refine h.step (ch := fun _ => False) ((Step.refl h.fc.fresh).env (fun id B hB => ?_) (fun _ _ h => h) (fun _ _ _ h _ => h) fun _ _ h => h) rfl (fun id hid => ?_) (by show (if 0 = st.next then some Base.nil else E.at_ 0) = none; rw [if_neg (Nat.ne_of_lt h.npos)]; exact h.zero) (Nat.succ_pos _) fun id y hy => ?_
  · show (if id = st.next then some Base.nil else E.at_ id) = some B
    rw [if_neg (fun e => by subst e; rw [h.next _ (Nat.le_refl _)] at hB; cases hB)]
    exact hB
  · simp only [St.new] at hid
    show (if id = st.next then some Base.nil else E.at_ id) = none
    rw [if_neg (by omega)]
    exact h.next id (by omega)
  · rw [obj_new] at hy
    split at hy
    · rename_i e; subst e; cases hy; exact .inr (.inl ⟨if_pos rfl, rfl⟩)
    · exact .inl ⟨hy, fun h => h⟩

theorem append_grow (hΓ : TabOk P Γ) (hr : RelE E C st a w) {t tx e : TypeId} {r : Row} (ht : P.underlying t = some (.slice e)) (he : Γ e = some r) {base : Option Addr} {sLen sCap : Nat} {olds news : List Value} {xs ys : List (List Tree)} {x : Value} {ty : TypeId}
    (hx : xs.length = sLen) (hfo : Flat w (roE E) r.size xs olds) (hold : (Builtin.firstCells r.size sLen (.slice base sLen sCap)).run P w.drew = .ok olds.toArray w.drew) (hs : Src P r.size tx x ys.length news w) (hfn : Flat w (roE E) r.size ys news)
    (hg : sCap < sLen + ys.length) (hb : (sLen + ys.length) * r.bytes ≤ 140737488355328) (hm : sLen + ys.length ≤ maxLen) :
    ∃ E' v w', (Builtin.append_ #[t, tx] ty #[.slice base sLen sCap, x]).run P w = .ok v w' ∧ RelE E' C (st.new (.arr e r.size (xs ++ ys))) a w' ∧ RC E' w' v (.own st.next 0 (sLen + ys.length)) := by
  obtain ⟨i, hi, hsz, hby, ⟨z, hz, hzc, _⟩, hzl, hall, _⟩ := (hΓ e r he).info
  have hlen : z.cells.size = r.size := by rw [← Array.length_toList, hzc, hzl]
  subst hx
  rw [← hsz] at hold hs
  have h63 : ((xs.length + ys.length : Nat) : Int) ≤ 9223372036854775807 := by unfold maxLen at hm; omega
  have hrun := run_append_grow_src (P := P) w t tx ty e i z ht hi hz base xs.length sCap olds hold x ys.length news hs hg h63 (growslice_fits hg (by rw [hby]; exact hb))
  generalize hc : grownCap w (xs.length + ys.length) sCap e = cap at hrun
  have hge : xs.length + ys.length ≤ cap := by rw [← hc]; exact grownCap_ge _ _ _ _
  have hle : cap ≤ maxLen := by rw [← hc]; exact grownCap_le_maxLen _ _ _ _ hm
  have hrd := hr.drew
  have hfl := hfo.append hfn
  refine ⟨_, _, _, hrun, hrd.new (.arr w.heap.size r.size cap) _ _ ?_, .inr ⟨w.heap.size, r.size, cap, 0, by show (if st.next = st.next then _ else _) = _; rw [if_pos rfl], rfl, by omega, fun _ => by omega⟩⟩
  have hst := step_new hrd (.arr w.heap.size r.size cap) (.cells ((olds ++ news).toArray ++ Builtin.zeroCells z.cells (cap - (xs.length + ys.length))) e)
  refine robj_of_flat (g := w.heap.size) (cap := cap) (vs := olds ++ news) (by show (if st.next = st.next then _ else _) = _; rw [if_pos rfl]) (Go.heap_alloc_new w.drew _) ?_ (by rw [List.length_append]; exact hge) hle (fun o => by show (if w.heap.size = w.heap.size then _ else _) = _; rw [if_pos rfl]) (hfl.mono fun v t h => hst.ro ((Step.drew hr.fc.fresh).ro h)) fun k v hv => ?_
  · rw [Array.size_append, size_zeroCells, List.size_toArray, hfl.len, hlen, List.length_append, ← Nat.add_mul]
    congr 1
    omega
  · rw [Array.getElem?_append_left (by simpa using (List.getElem?_eq_some_iff.1 hv).1)]
    simpa using hv

theorem append_room (hΓ : TabOk P Γ) (hr : RelE E C st a w) {t tx e : TypeId} {r : Row} (ht : P.underlying t = some (.slice e)) (he : Γ e = some r) {id g of len cap : Nat} {news : List Value} {xs ys : List (List Tree)} {x : Value} {ty : TypeId}
    (hat : E.at_ id = some (.arr g r.size cap)) (hob : st.obj id = some (.arr e r.size xs)) (hlen : len ≤ xs.length) (hof : 0 < cap → of = 0) (hs : Src P r.size tx x ys.length news w) (hfn : Flat w (roE E) r.size ys news) (hroom : len + ys.length ≤ cap) :
    ∃ E' v w', (Builtin.append_ #[t, tx] ty #[.slice (some ⟨g, of, none⟩) len cap, x]).run P w = .ok v w' ∧ RelE E' C ((st.delObj id).new (.arr e r.size (xs.take len ++ ys))) a w' ∧ RC E' w' v (.own st.next 0 (len + ys.length)) := by
  obtain ⟨i, hi, hsz, _⟩ := (hΓ e r he).info
  obtain ⟨cur, h1, h2, h3, h4, h5, vs, h6, h7⟩ := arr_flat (hr.objs _ _ hob) hat
  have hnl := hfn.len
  have hlt : len = (xs.take len).length := by rw [List.length_take, Nat.min_eq_left hlen]
  have hcell : ∀ j, j < news.length → of = 0 ∧ len * r.size + j < cur.size := fun j hj => by
    rcases Nat.eq_zero_or_pos cap with e0 | e0
    · have : ys.length = 0 := by omega
      rw [hnl, this] at hj; simp at hj
    · refine ⟨hof e0, ?_⟩
      rw [h2]
      have : (len + ys.length) * r.size ≤ cap * r.size := Nat.mul_le_mul_right _ hroom
      rw [Nat.add_mul] at this
      omega
  have hrun := run_append_room_src (P := P) w t tx ty e i ht hi g of len cap x ys.length news (by rw [hsz]; exact hs) hroom
    (fun j hj => by
      obtain ⟨h8, h9⟩ := hcell j hj
      rw [h8, hsz, Nat.zero_add, cur_cell h1, Array.getElem?_eq_getElem h9]; rfl)
    (fun j hj => frozen_of_row w g _ cur e h1)
  rw [hsz] at hrun
  have hst0 := step_store hr (g := g) (o := of + len * r.size) (vs := news) (id := id) (obj_pos hr hob) (fun j _ => h5 _)
  let E1 : Env := ⟨fun k => if k = st.next then some (.arr g r.size cap) else E.at_ k, fun b o => if E.own b o = some id then some st.next else E.own b o⟩
  have hst : Step E E1 w (w.setCells g (of + len * r.size) news) (fun k => k = id) := hst0.env
    (fun k B hB => by
      show (if k = st.next then _ else _) = _
      rw [if_neg (fun e => by subst e; rw [hr.next _ (Nat.le_refl _)] at hB; cases hB)]
      exact hB)
    (fun b o h => by show (if E.own b o = some id then _ else _) = _; rw [if_neg (by rw [h]; simp)]; exact h)
    (fun b o k h hk => by show (if E.own b o = some id then _ else _) = _; rw [if_neg (by rw [h]; intro e; cases e; exact hk rfl)]; exact h)
    (fun b o h => by
      have h' : (if E.own b o = some id then some st.next else E.own b o) = some 0 := h
      split at h'
      · have := hr.npos; have := Option.some.inj h'; omega
      · exact h')
  have hat1 : E1.at_ st.next = some (.arr g r.size cap) := if_pos rfl
  refine ⟨E1, _, _, hrun, hr.step hst rfl (fun k hk => ?_) (by show (if 0 = st.next then _ else _) = _; rw [if_neg (Nat.ne_of_lt hr.npos)]; exact hr.zero) (Nat.succ_pos _) fun k y hy => ?_, .inr ⟨g, r.size, cap, of, hat1, rfl, by omega, fun h => by rw [hof h]; omega⟩⟩
  · have hk' : st.next + 1 ≤ k := hk
    show (if k = st.next then _ else _) = _
    rw [if_neg (by omega)]
    exact hr.next k (by omega)
  · rw [obj_new] at hy
    split at hy
    · rename_i e1
      have e2 : k = st.next := e1
      subst e2
      cases hy
      right
      obtain ⟨cur', h8, h9, h10⟩ := setCells_cur g news (of + len * r.size) w cur e (0, 0) h1
      have hfl := ((h6.take len).append hfn).mono (w' := w.setCells g (of + len * r.size) news) (A' := roE E1) fun v t h => hst.ro h
      refine robj_of_flat hat1 h8 (by rw [h9, h2]) (by rw [List.length_append, ← hlt]; exact hroom) h4 (fun o => by show (if E.own g o = some id then _ else _) = _; rw [if_pos (h5 o)]) hfl fun q v hv => ?_
      have hvl : (vs.take (len * r.size)).length = len * r.size := by rw [(h6.take len).len, ← hlt]
      by_cases hq : q < len * r.size
      · rw [List.getElem?_append_left (by omega), List.getElem?_take, if_pos hq] at hv
        have hc := h7 q v hv
        rw [Nat.zero_add, cur_cell h1] at hc
        rw [h10 q (Array.getElem?_eq_some_iff.1 hc).1, if_neg, hc]
        rintro ⟨h11, h12⟩
        have := hcell 0 (by omega)
        omega
      · rw [List.getElem?_append_right (by omega), hvl] at hv
        have hj := (List.getElem?_eq_some_iff.1 hv).1
        obtain ⟨h11, h12⟩ := hcell _ hj
        rw [h10 q (by omega), if_pos (by omega), h11, Nat.zero_add]
        exact hv
    · rename_i e1
      rw [obj_del] at hy
      split at hy
      · cases hy
      · rename_i e2; exact .inl ⟨hy, e2⟩

theorem amOp_append (hΓ : TabOk P Γ) {t tx e : TypeId} {x y : Operand} {r : Row} {old : Option Nat} {xs ys : List (List Tree)} (ho : o.op = .call { callee := .builtin .append, args := #[x, y], argTypes := #[t, tx] }) (ht : P.underlying t = some (.slice e)) (he : Γ e = some r)
    (hx : dstOf st e r.size (st.eval x) = some (old, xs)) (hy : srcOf st r.size (st.eval y) = some ys) (hk : (∃ e', P.underlying tx = some (.slice e')) ∨ P.underlying tx = some .string)
    (hk2 : (∃ s, st.eval y = lit (.string s)) ∨ (∃ e', P.underlying tx = some (.slice e'))) (hk3 : (∀ s, st.eval y ≠ lit (.string s)) ∨ P.underlying tx = some .string)
    (hb : (xs.length + ys.length) * r.bytes ≤ 140737488355328) (hm : xs.length + ys.length ≤ maxLen) (hd : dstOk C.n o = true)
    (hK : K (((st.delOpt old).new (.arr e r.size (xs ++ ys))).put o.dst (.c (.own st.next 0 (xs.length + ys.length))))) : amOp P C o Q K st := by
  refine amOp_step hd hK fun E a w hr => ?_
  obtain ⟨news, hs, hfn⟩ := src_ok (P := P) hr (hr.eval y) hy hk hk2 hk3
  have h1 := hr.eval x
  have hex : ∀ {v w'}, (Builtin.append_ #[t, tx] o.type #[a.eval x, a.eval y]).run P w = .ok v w' → (execOp a.eval o).run P w = .ok (.value v) w' := fun {v w'} hv => by
    simp [execOp, ho, resolve, invoke, builtin, hv]
  -- a nil row
  have hnil : a.eval x = .slice none 0 0 → xs = [] → ∃ E' v w', (Builtin.append_ #[t, tx] o.type #[a.eval x, a.eval y]).run P w = .ok v w' ∧ RelE E' C ((st.delOpt old).new (.arr e r.size (xs ++ ys))) a w' ∧ RC E' w' v (.own st.next 0 (xs.length + ys.length)) := by
    intro hv hxs
    subst hxs
    rw [hv]
    have hr0 := hr.delOpt old
    rcases Nat.eq_zero_or_pos ys.length with h0 | h0
    · have hys : ys = [] := List.eq_nil_of_length_eq_zero h0
      subst hys
      have hn0 : news = [] := List.eq_nil_of_length_eq_zero (by rw [hfn.len]; simp)
      subst hn0
      obtain ⟨i, hi, hsz, _⟩ := (hΓ e r he).info
      rw [← hsz] at hs
      have hrun : (Builtin.append_ #[t, tx] o.type #[.slice none 0 0, a.eval y]).run P w = .ok (.slice none 0 0) w := by
        have hc0 : (Builtin.firstCells i.size 0 (a.eval y)).run P w = .ok #[] w := hs.cells
        have hl0 : ∀ w' : World, (Builtin.lenOf (a.eval y)).run P w' = .ok 0 w' := hs.len
        rcases hs.kind with ⟨e', hk⟩ | hk <;> simp [Builtin.append_, run_underlying ht, run_underlying hk, sizeOf, typeInfo, hi, hl0, hc0]
      refine ⟨_, _, _, hrun, hr0.newNil e r.size, .inl ⟨?_, rfl, rfl, by simp⟩⟩
      show (if st.next = (st.delOpt old).next then _ else _) = _
      rw [delOpt_next, if_pos rfl]
    · have := append_grow (xs := []) (ys := ys) (sLen := 0) (sCap := 0) (base := none) (x := a.eval y) (ty := o.type) (tx := tx) hΓ hr0 ht he rfl Flat.nil (run_firstCells_none w.drew r.size 0 0 0) hs hfn (by omega) (by simpa using hb) (by simpa using hm)
      obtain ⟨E', v, w', h2, h3, h4⟩ := this
      rw [delOpt_next] at h4
      exact ⟨E', v, w', h2, h3, by simpa using h4⟩
  have key : ∃ E' v w', (Builtin.append_ #[t, tx] o.type #[a.eval x, a.eval y]).run P w = .ok v w' ∧ RelE E' C ((st.delOpt old).new (.arr e r.size (xs ++ ys))) a w' ∧ RC E' w' v (.own st.next 0 (xs.length + ys.length)) := by
    generalize hX : st.eval x = X at hx h1
    unfold dstOf at hx
    split at hx
    · cases hx
      exact hnil (ro_v (rtT h1)) rfl
    · rename_i id lo len
      split at hx
      · rename_i ty s zs hob
        split at hx
        · rename_i hc
          obtain ⟨h2, h3, h4, h5⟩ := hc
          subst h2; subst h3; subst h4
          cases hx
          have hlt : (zs.take len).length = len := by rw [List.length_take, Nat.min_eq_left h5]
          rcases rtC h1 with ⟨h6, h7, h8, h9⟩ | ⟨g, sz', cap, of, h6, h7, h8, h9⟩
          · subst h9
            exact hnil h7 (by simp)
          · have hro := hr.objs _ _ hob
            have hsz : sz' = r.size := by
              rcases hro with ⟨h9, _⟩ | ⟨g', cap', cur, h9, _⟩
              · rw [h6] at h9; cases h9
              · rw [h6] at h9; cases h9; rfl
            subst hsz
            rw [h7, Nat.sub_zero]
            rw [hlt] at hb hm
            rcases Nat.lt_or_ge cap (len + ys.length) with hg | hg
            · obtain ⟨cur, h10, h11, h12, h13, h14, vs, h15, h16⟩ := arr_flat hro h6
              have hfo := h15.take len
              have hof : 0 < cap → of = 0 := fun h => by rw [h9 h]; omega
              have hold : (Builtin.firstCells r.size len (.slice (some ⟨g, of, none⟩) len cap)).run P w.drew = .ok (vs.take (len * r.size)).toArray w.drew := by
                refine run_firstCells_some w.drew r.size len ⟨g, of, none⟩ len cap _ (by rw [hfo.len, hlt]) fun j u hu => ?_
                rw [List.getElem?_take] at hu
                split at hu
                · rename_i hj
                  have hcap : 0 < cap := by
                    rcases Nat.eq_zero_or_pos len with e | e
                    · subst e; simp at hj
                    · omega
                  have := h16 j u hu
                  rw [Nat.zero_add] at this
                  rw [Addr.add_mid, hof hcap, Nat.zero_add]
                  exact this
                · cases hu
              obtain ⟨E', v, w', h17, h18, h19⟩ := append_grow (ty := o.type) hΓ (hr.delOpt (some id)) ht he hlt hfo hold hs hfn hg hb hm
              rw [delOpt_next] at h19
              exact ⟨E', v, w', h17, h18, by rw [hlt]; exact h19⟩
            · obtain ⟨E', v, w', h17, h18, h19⟩ := append_room (of := of) (ty := o.type) hΓ hr ht he h6 hob h5 (fun h => by rw [h9 h]; omega) hs hfn hg
              exact ⟨E', v, w', h17, h18, by rw [hlt]; exact h19⟩
        · cases hx
      · cases hx
    · cases hx
  obtain ⟨E', v, w', h2, h3, h4⟩ := key
  exact ⟨E', v, w', hex h2, h3, h4⟩
end
end Go.Proofs.YtaolgdpkcbfocaaDoorA
