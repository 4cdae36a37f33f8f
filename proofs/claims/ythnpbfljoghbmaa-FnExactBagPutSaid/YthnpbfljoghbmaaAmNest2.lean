/- The calculus: appending onto a row whose elements hold rows. -/
import Derived.Test.YthnpbfljoghbmaaAmNest
namespace Go.Proofs.YthnpbfljoghbmaaA
set_option autoImplicit false
set_option linter.unusedVariables false
/-- What an appending leaves as it was. -/
def Fr (E : Env) (w : World) (E' : Env) (w' : World) (nx : Nat) (old : Option Nat) : Prop :=
  (∀ v t, RO w (fun b o => E.own b o = none) v t → RO w' (fun b o => E'.own b o = none) v t) ∧ (∀ v x, RC E w v x → RC E' w' v x) ∧
  (∀ (b : Nat) x, w.heap[b]? = some x → (∀ id g sz cap, old = some id → E.at_ id = some (.arr g sz cap) → b ≠ g) → w'.heap[b]? = some x) ∧
  (∀ b o, b < w.heap.size → E'.own b o = E.own b o ∨ ((E.own b o).isSome = true ∧ E.own b o = old ∧ E'.own b o = some nx)) ∧
  (∀ g sz cap, E'.at_ nx = some (.arr g sz cap) → w.heap.size ≤ g ∨ ∃ id sz cap, old = some id ∧ E.at_ id = some (.arr g sz cap))
section
variable {P : Program} {Γ : Nat → Option Row} {C : Ctx} {Q : Exit → St → Prop} {st : St} {E : Env} {a : Act} {w : World} {o : Oper} {K : St → Prop}
theorem append_growF (hΓ : TabOk P Γ) (hr : RelE E C st a w) {t tx e : TypeId} {r : Row} (ht : P.underlying t = some (.slice e)) (he : Γ e = some r) {base : Option Addr} {sLen sCap : Nat} {olds news : List Value} {xs ys : List (List Tree)} {x : Value} {ty : TypeId}
    (hx : xs.length = sLen) (hfo : Flat w (roE E) r.size xs olds) (hold : (Builtin.firstCells r.size sLen (.slice base sLen sCap)).run P w.drew = .ok olds.toArray w.drew) (hs : Src P r.size tx x ys.length news w) (hfn : Flat w (roE E) r.size ys news)
    (hg : sCap < sLen + ys.length) (hb : (sLen + ys.length) * r.bytes ≤ 140737488355328) (hm : sLen + ys.length ≤ maxLen) :
    ∃ E' v w', (Builtin.append_ #[t, tx] ty #[.slice base sLen sCap, x]).run P w = .ok v w' ∧ RelE E' C (st.new (.arr e r.size (xs ++ ys))) a w' ∧ RC E' w' v (.own st.next 0 (sLen + ys.length)) ∧ ∀ old, Fr E w E' w' st.next old := by
  obtain ⟨i, hi, hsz, hby, ⟨z, hz, hzc, _⟩, hzl, hall, _⟩ := (hΓ e r he).info
  have hlen : z.cells.size = r.size := by rw [← Array.length_toList, hzc, hzl]
  subst hx
  rw [← hsz] at hold hs
  have h63 : ((xs.length + ys.length : Nat) : Int) ≤ 9223372036854775807 := by unfold maxLen at hm; omega
  have hrun := run_append_grow_src (P := P) w t tx ty e i z ht hi hz base xs.length sCap olds hold x ys.length news hs hg h63 (growslice_fits hg (by rw [hby]; exact hb))
  generalize hc : grownCap w (xs.length + ys.length) sCap e = cap at hrun
  have hge : xs.length + ys.length ≤ cap := by rw [← hc]; exact grownCap_ge _ _ _ _
  have hle : cap ≤ maxLen := by rw [← hc]; exact grownCap_le_maxLen _ _ _ _ hm
  have hrd := hr.drew
  have hfl := hfo.append hfn
  have hst := step_new hrd (.arr w.heap.size r.size cap) (.cells ((olds ++ news).toArray ++ Builtin.zeroCells z.cells (cap - (xs.length + ys.length))) e)
  refine ⟨_, _, _, hrun, hrd.new (.arr w.heap.size r.size cap) _ _ ?_, .inr ⟨w.heap.size, r.size, cap, 0, by show (if st.next = st.next then _ else _) = _; rw [if_pos rfl], rfl, by omega, fun _ => by omega⟩, fun old => ⟨fun v t h => hst.ro ((Step.drew hr.fc.fresh).ro h), fun v x h => hst.rc ((Step.drew hr.fc.fresh).rc h), fun b x hb _ => ?_, fun b o hb => .inl ?_, fun g sz cap2 h => .inl ?_⟩⟩
  rotate_left
  · rw [Go.heap_alloc_old w.drew _ b (Array.getElem?_eq_some_iff.1 hb).1]; exact hb
  · show (if b = w.heap.size then _ else _) = _
    rw [if_neg (by omega)]
  · have h' : (if st.next = st.next then some (Base.arr w.heap.size r.size cap) else _) = some (Base.arr g sz cap2) := h
    rw [if_pos rfl] at h'
    cases h'
    exact Nat.le_refl _
  refine robj_of_flat (g := w.heap.size) (cap := cap) (vs := olds ++ news) (by show (if st.next = st.next then _ else _) = _; rw [if_pos rfl]) (Go.heap_alloc_new w.drew _) ?_ (by rw [List.length_append]; exact hge) hle (fun o => by show (if w.heap.size = w.heap.size then _ else _) = _; rw [if_pos rfl]) (hfl.mono fun v t h => hst.ro ((Step.drew hr.fc.fresh).ro h)) fun k v hv => ?_
  · rw [Array.size_append, size_zeroCells, List.size_toArray, hfl.len, hlen, List.length_append, ← Nat.add_mul]
    congr 1
    omega
  · rw [Array.getElem?_append_left (by simpa using (List.getElem?_eq_some_iff.1 hv).1)]
    simpa using hv

theorem append_roomF (hΓ : TabOk P Γ) (hr : RelE E C st a w) {t tx e : TypeId} {r : Row} (ht : P.underlying t = some (.slice e)) (he : Γ e = some r) {id g of len cap : Nat} {news : List Value} {xs ys : List (List Tree)} {x : Value} {ty : TypeId}
    (hat : E.at_ id = some (.arr g r.size cap)) (hob : st.obj id = some (.arr e r.size xs)) (hlen : len ≤ xs.length) (hof : 0 < cap → of = 0) (hs : Src P r.size tx x ys.length news w) (hfn : Flat w (roE E) r.size ys news) (hroom : len + ys.length ≤ cap) :
    ∃ E' v w', (Builtin.append_ #[t, tx] ty #[.slice (some ⟨g, of, none⟩) len cap, x]).run P w = .ok v w' ∧ RelE E' C ((st.delObj id).new (.arr e r.size (xs.take len ++ ys))) a w' ∧ RC E' w' v (.own st.next 0 (len + ys.length)) ∧ Fr E w E' w' st.next (some id) := by
  obtain ⟨i, hi, hsz, _⟩ := (hΓ e r he).info
  obtain ⟨cur, h1, h2, h3, h4, h5, vs, h6, h7⟩ := arr_flat (hr.objs _ _ hob) hat
  have hnl := hfn.len
  have hlt : len = (xs.take len).length := by rw [List.length_take, Nat.min_eq_left hlen]
  have hcell : ∀ j, j < news.length → of = 0 ∧ len * r.size + j < cur.size := fun j hj => by
    rcases Nat.eq_zero_or_pos cap with e0 | e0
    · have : ys.length = 0 := by omega
      rw [hnl, this] at hj; simp at hj
    · refine ⟨hof e0, ?_⟩
      rw [h2]
      have : (len + ys.length) * r.size ≤ cap * r.size := Nat.mul_le_mul_right _ hroom
      rw [Nat.add_mul] at this
      omega
  have hrun := run_append_room_src (P := P) w t tx ty e i ht hi g of len cap x ys.length news (by rw [hsz]; exact hs) hroom
    (fun j hj => by
      obtain ⟨h8, h9⟩ := hcell j hj
      rw [h8, hsz, Nat.zero_add, cur_cell h1, Array.getElem?_eq_getElem h9]; rfl)
    (fun j hj => frozen_of_row w g _ cur e h1)
  rw [hsz] at hrun
  have hst0 := step_store hr (g := g) (o := of + len * r.size) (vs := news) (id := id) (obj_pos hr hob) (fun j _ => h5 _)
  let E1 : Env := ⟨fun k => if k = st.next then some (.arr g r.size cap) else E.at_ k, fun b o => if E.own b o = some id then some st.next else E.own b o⟩
  have hst : Step E E1 w (w.setCells g (of + len * r.size) news) (fun k => k = id) := hst0.env
    (fun k B hB => by
      show (if k = st.next then _ else _) = _
      rw [if_neg (fun e => by subst e; rw [hr.next _ (Nat.le_refl _)] at hB; cases hB)]
      exact hB)
    (fun b o h => by show (if E.own b o = some id then _ else _) = _; rw [if_neg (by rw [h]; simp)]; exact h)
    (fun b o k h hk => by show (if E.own b o = some id then _ else _) = _; rw [if_neg (by rw [h]; intro e; cases e; exact hk rfl)]; exact h)
    (fun b o h => by
      have h' : (if E.own b o = some id then some st.next else E.own b o) = some 0 := h
      split at h'
      · have := hr.npos; have := Option.some.inj h'; omega
      · exact h')
  have hat1 : E1.at_ st.next = some (.arr g r.size cap) := if_pos rfl
  refine ⟨E1, _, _, hrun, hr.step hst rfl (fun k hk => ?_) (by show (if 0 = st.next then _ else _) = _; rw [if_neg (Nat.ne_of_lt hr.npos)]; exact hr.zero) (Nat.succ_pos _) fun k y hy => ?_, .inr ⟨g, r.size, cap, of, hat1, rfl, by omega, fun h => by rw [hof h]; omega⟩, fun v t h => hst.ro h, fun v x h => hst.rc h, fun b x hb hne => ?_, fun b o hb => ?_, fun g2 sz2 cap2 h => .inr ⟨id, r.size, cap, rfl, ?_⟩⟩
  · have hk' : st.next + 1 ≤ k := hk
    show (if k = st.next then _ else _) = _
    rw [if_neg (by omega)]
    exact hr.next k (by omega)
  · rw [obj_new] at hy
    split at hy
    · rename_i e1
      have e2 : k = st.next := e1
      subst e2
      cases hy
      right
      obtain ⟨cur', h8, h9, h10⟩ := setCells_cur g news (of + len * r.size) w cur e (0, 0) h1
      have hfl := ((h6.take len).append hfn).mono (w' := w.setCells g (of + len * r.size) news) (A' := roE E1) fun v t h => hst.ro h
      refine robj_of_flat hat1 h8 (by rw [h9, h2]) (by rw [List.length_append, ← hlt]; exact hroom) h4 (fun o => by show (if E.own g o = some id then _ else _) = _; rw [if_pos (h5 o)]) hfl fun q v hv => ?_
      have hvl : (vs.take (len * r.size)).length = len * r.size := by rw [(h6.take len).len, ← hlt]
      by_cases hq : q < len * r.size
      · rw [List.getElem?_append_left (by omega), List.getElem?_take, if_pos hq] at hv
        have hc := h7 q v hv
        rw [Nat.zero_add, cur_cell h1] at hc
        rw [h10 q (Array.getElem?_eq_some_iff.1 hc).1, if_neg, hc]
        rintro ⟨h11, h12⟩
        have := hcell 0 (by omega)
        omega
      · rw [List.getElem?_append_right (by omega), hvl] at hv
        have hj := (List.getElem?_eq_some_iff.1 hv).1
        obtain ⟨h11, h12⟩ := hcell _ hj
        rw [h10 q (by omega), if_pos (by omega), h11, Nat.zero_add]
        exact hv
    · rename_i e1
      rw [obj_del] at hy
      split at hy
      · cases hy
      · rename_i e2; exact .inl ⟨hy, e2⟩
  · rw [setCells_heap_ne g news _ w b (hne id g _ _ rfl hat)]; exact hb
  · by_cases h0 : E.own b o = some id
    · right
      refine ⟨by rw [h0]; rfl, h0, ?_⟩
      show (if E.own b o = some id then _ else _) = _
      rw [if_pos h0]
    · left
      show (if E.own b o = some id then _ else _) = _
      rw [if_neg h0]
  · rw [hat1] at h
    cases h
    exact hat

/-! ### Elements that hold rows, told as values -/
def lifT (cur : Array Value) (p : Nat) : NC → Tree
  | .t t => t
  | _ => .v ((cur[p]?).getD undef)
def lif (cur : Array Value) (sz : Nat) (xs : List (List NC)) : List (List Tree) := xs.mapIdx fun i x => x.mapIdx fun j c => lifT cur (i * sz + j) c
theorem lif_len (cur : Array Value) (sz : Nat) (xs : List (List NC)) : (lif cur sz xs).length = xs.length := by simp [lif]
theorem lif_get {cur : Array Value} {sz i j : Nat} {xs : List (List NC)} {y : List Tree} {t : Tree} (hy : (lif cur sz xs)[i]? = some y) (ht : y[j]? = some t) : ∃ x c, xs[i]? = some x ∧ x[j]? = some c ∧ t = lifT cur (i * sz + j) c := by
  unfold lif at hy
  rw [List.getElem?_mapIdx] at hy
  obtain ⟨x, hx, rfl⟩ := Option.map_eq_some_iff.1 hy
  rw [List.getElem?_mapIdx] at ht
  obtain ⟨c, hc, rfl⟩ := Option.map_eq_some_iff.1 ht
  exact ⟨x, c, hx, hc, rfl⟩
theorem lif_put {cur : Array Value} {sz i j : Nat} {xs : List (List NC)} {x : List NC} {c : NC} (hx : xs[i]? = some x) (hc : x[j]? = some c) : ∃ y, (lif cur sz xs)[i]? = some y ∧ y[j]? = some (lifT cur (i * sz + j) c) := by
  refine ⟨x.mapIdx fun j c => lifT cur (i * sz + j) c, ?_, ?_⟩
  · unfold lif; rw [List.getElem?_mapIdx, hx]; rfl
  · rw [List.getElem?_mapIdx, hc]; rfl
theorem lif_row {cur : Array Value} {sz : Nat} {xs : List (List NC)} {y : List Tree} (hy : y ∈ lif cur sz xs) : ∃ x, x ∈ xs ∧ y.length = x.length := by
  obtain ⟨i, hi⟩ := List.getElem?_of_mem hy
  unfold lif at hi
  rw [List.getElem?_mapIdx] at hi
  obtain ⟨x, hx, rfl⟩ := Option.map_eq_some_iff.1 hi
  exact ⟨x, List.mem_of_getElem? hx, by simp⟩
theorem rnc_one {id g : Nat} {v : Value} {c : NC} (h : RNC E w id g v c) : v.oneCell' = true := by
  cases c with
  | t t => exact RO.one h
  | c x => exact h.1
  | row a b r =>
    rcases h with ⟨rfl, _⟩ | ⟨g', cap, cur, o, rfl, _⟩
    · rfl
    · rfl
theorem lif_ro {id g : Nat} {v : Value} {c : NC} {cur : Array Value} {p : Nat} (hv : cur[p]? = some v) (h : RNC E w id g v c) : RO w (fun b o => E.own b o = none) v (lifT cur p c) := by
  cases c with
  | t t => exact h
  | c x => simp only [lifT, hv, Option.getD_some]; exact .v _ (rnc_one h)
  | row a b r => simp only [lifT, hv, Option.getD_some]; exact .v _ (rnc_one h)
theorem robj_lif {id ty sz : Nat} {xs : List (List NC)} (h : RNest E w id ty sz xs) : ∃ cur : Array Value, RObj E w id (.arr ty sz (lif cur sz xs)) ∧ ((E.at_ id = some .nil ∧ xs = []) ∨
    ∃ g cap, E.at_ id = some (.arr g sz cap) ∧ w.heap[g]? = some (.cells cur ty (0, 0)) ∧ xs.length ≤ cap ∧ (∀ o, E.own g o = some id) ∧ (∀ x, x ∈ xs → x.length = sz) ∧
    (∀ i x, xs[i]? = some x → ∀ j c, x[j]? = some c → ∃ v, cur[i * sz + j]? = some v ∧ RNC E w id g v c) ∧
    ∀ p q v v' b, isRow xs sz p → isRow xs sz q → cur[p]? = some v → cur[q]? = some v' → blkOf v = some b → blkOf v' = some b → p = q) := by
  rcases h with ⟨h1, rfl⟩ | ⟨g, cap, cur, h1, h2, h3, h4, h5, h6, h7, h8, h9⟩
  · exact ⟨#[], .inl ⟨h1, rfl⟩, .inl ⟨h1, rfl⟩⟩
  · refine ⟨cur, .inr ⟨g, cap, cur, h1, h2, h3, by rw [lif_len]; exact h4, h5, h6, fun y hy => ?_, fun i y hy j t ht => ?_⟩, .inr ⟨g, cap, h1, h2, h4, h6, h7, h8, h9⟩⟩
    · obtain ⟨x, hx, e⟩ := lif_row hy
      rw [e]; exact h7 x hx
    · obtain ⟨x, c, hx, hc, rfl⟩ := lif_get hy ht
      obtain ⟨v, hv, hr⟩ := h8 i x hx j c hc
      exact ⟨v, hv, lif_ro hv hr⟩
theorem RelE.toObj (h : RelE E C st a w) {id : Nat} {x y : AObj} (hx : st.obj id = some x) (hy : RObj E w id y) : RelE E C (st.setObj id y) a w := by
  refine { h with objs := fun i o hi => ?_ }
  have hi' : look i (upd id y st.objs) = some o := hi
  rw [look_upd] at hi'
  split at hi'
  · rename_i e; subst e; cases hi'; exact hy
  · exact h.objs _ _ hi'
def LNest (E : Env) (w : World) (id sz : Nat) (cur : Array Value) (ty : TypeId) (xs : List (List NC)) : Prop := (E.at_ id = some .nil ∧ xs = []) ∨
    ∃ g cap, E.at_ id = some (.arr g sz cap) ∧ w.heap[g]? = some (.cells cur ty (0, 0)) ∧ xs.length ≤ cap ∧ (∀ o, E.own g o = some id) ∧ (∀ x, x ∈ xs → x.length = sz) ∧
    (∀ i x, xs[i]? = some x → ∀ j c, x[j]? = some c → ∃ v, cur[i * sz + j]? = some v ∧ RNC E w id g v c) ∧
    ∀ p q v v' b, isRow xs sz p → isRow xs sz q → cur[p]? = some v → cur[q]? = some v' → blkOf v = some b → blkOf v' = some b → p = q
theorem lnest_cell {id sz : Nat} {cur : Array Value} {ty : TypeId} {xs : List (List NC)} (h : LNest E w id sz cur ty xs) {i j : Nat} {x : List NC} {c : NC} (hx : xs[i]? = some x) (hc : x[j]? = some c) :
    ∃ g cap v, E.at_ id = some (.arr g sz cap) ∧ cur[i * sz + j]? = some v ∧ RNC E w id g v c := by
  rcases h with ⟨_, rfl⟩ | ⟨g, cap, h1, _, _, _, _, h2, _⟩
  · simp at hx
  · obtain ⟨v, h3, h4⟩ := h2 i x hx j c hc
    exact ⟨g, cap, v, h1, h3, h4⟩
theorem lnest_sz {id sz : Nat} {cur : Array Value} {ty : TypeId} {xs : List (List NC)} (h : LNest E w id sz cur ty xs) : ∀ x, x ∈ xs → x.length = sz := by
  rcases h with ⟨_, rfl⟩ | ⟨g, cap, _, _, _, _, h2, _⟩
  · intro x hx; cases hx
  · exact h2
theorem app_fin {E' : Env} {w' : World} (hr : RelE E C st a w) {id id2 sz : Nat} {e e2 : TypeId} {xs ys : List (List NC)} {cur1 cur2 : Array Value} (hob : st.obj id = some (.nest e sz xs)) (hob2 : st.obj id2 = some (.nest e2 sz ys)) (hne : id ≠ id2)
    (hnr : ∀ x, x ∈ ys → ∀ c, c ∈ x → ∀ a b q, c ≠ NC.row a b q) (l1 : LNest E w id sz cur1 e xs) (l2 : LNest E w id2 sz cur2 e2 ys)
    (hrel : RelE E' C ((((st.setObj id (.arr e sz (lif cur1 sz xs))).setObj id2 (.arr e2 sz (lif cur2 sz ys))).delObj id).new (.arr e sz (lif cur1 sz xs ++ lif cur2 sz ys))) a w') (fr : Fr E w E' w' st.next (some id)) :
    ∃ E'', RelE E'' C (((st.delObj id).delObj id2).new (.nest e sz (xs ++ ys))) a w' ∧ ∀ v n, RC E' w' v (.own st.next 0 n) → RC E'' w' v (.own st.next 0 n) := by
  obtain ⟨f1, f2, f3, f4, f5⟩ := fr
  have hid0 := obj_pos hr hob
  have hnp := hr.npos
  have hidn : id ≠ st.next := fun h => by
    rcases l1 with ⟨h1, _⟩ | ⟨g, cap, h1, _⟩ <;> (rw [h, hr.next _ (Nat.le_refl _)] at h1; cases h1)
  let F : Env := ⟨E'.at_, fun b o => if E'.own b o = some id then some st.next else E'.own b o⟩
  have hat : ∀ i B, E'.at_ i = some B → F.at_ i = some B := fun _ _ h => h
  have hno : ∀ b o, E'.own b o = none → F.own b o = none := fun b o h0 => by
    show (if E'.own b o = some id then _ else _) = _
    rw [if_neg (by rw [h0]; simp), h0]
  have hk : ∀ j, j ≠ id → ∀ b o, E'.own b o = some j → F.own b o = some j := fun j hj b o h0 => by
    show (if E'.own b o = some id then _ else _) = _
    rw [if_neg (by rw [h0]; simpa using hj), h0]
  have hto : ∀ b o, E'.own b o = some id → F.own b o = some st.next := fun b o h0 => by
    show (if E'.own b o = some id then _ else _) = _
    rw [if_pos h0]
  have hro : ∀ {v t}, RO w' (fun b o => E'.own b o = none) v t → RO w' (fun b o => F.own b o = none) v t := fun h => RO.mono (fun b o v hb hc => ⟨hno b o hb, hc⟩) h
  have hnew : RObj E' w' st.next (.arr e sz (lif cur1 sz xs ++ lif cur2 sz ys)) := hrel.objs st.next _ (by rw [obj_new, if_pos]; rfl)
  refine ⟨F, ⟨fun t x hx => (hrel.tmps t x hx).own hat hno, hrel.size, hrel.defers, fun q y hy => ?_, hrel.next, hrel.zero, hrel.npos, hrel.dom, ⟨hrel.fc.pre, hrel.fc.os, hrel.fc.tape, hrel.fc.output, hrel.fc.size, hrel.fc.at_, hrel.fc.blk, fun b o hb h0 => ?_, fun b o hb => hno _ _ (hrel.fc.fresh b o hb), fun b o he => ?_⟩⟩, fun v n hv => hv⟩
  · rw [obj_new] at hy
    split at hy
    · rename_i e0
      have e1 : q = st.next := e0
      subst e1
      cases hy
      rcases hnew with ⟨n1, n2⟩ | ⟨g2, cap2, cu, h1, h2, h3, h4, h5, h6, h7, h8⟩
      · have n3 := congrArg List.length n2
        simp only [List.length_append, lif_len, List.length_nil] at n3
        exact .inl ⟨n1, List.eq_nil_of_length_eq_zero (by rw [List.length_append]; omega)⟩
      have old : ∀ i x, xs[i]? = some x → ∀ j c, x[j]? = some c → ∃ g cap v v2, E.at_ id = some (.arr g sz cap) ∧ cur1[i * sz + j]? = some v ∧ RNC E w id g v c ∧ cu[i * sz + j]? = some v2 ∧ RO w' (fun b o => E'.own b o = none) v2 (lifT cur1 (i * sz + j) c) := fun i x hx j c hc => by
        obtain ⟨g, cap, v, k1, k2, k3⟩ := lnest_cell l1 hx hc
        obtain ⟨y, k4, k5⟩ := lif_put (cur := cur1) (sz := sz) hx hc
        have hi := (List.getElem?_eq_some_iff.1 hx).1
        obtain ⟨v2, k6, k7⟩ := h8 i y (by rw [List.getElem?_append_left (by rw [lif_len]; exact hi)]; exact k4) j _ k5
        exact ⟨g, cap, v, v2, k1, k2, k3, k6, k7⟩
      have same : ∀ p v, isRow xs sz p → cu[p]? = some v → cur1[p]? = some v := fun p v hp hv => by
        obtain ⟨i, j, x, a', b', r', rfl, e2, e3⟩ := hp
        obtain ⟨g, cap, v1, v2, k1, k2, k3, k4, k5⟩ := old i x e2 j _ e3
        rw [k4] at hv
        cases hv
        rw [k2]
        simp only [lifT, k2, Option.getD_some] at k5
        cases k5
        rfl
      have rowx : ∀ p, isRow (xs ++ ys) sz p → isRow xs sz p := fun p hp => by
        obtain ⟨i, j, x, a', b', r', e1, e2, e3⟩ := hp
        rcases Nat.lt_or_ge i xs.length with hi | hi
        · rw [List.getElem?_append_left hi] at e2
          exact ⟨i, j, x, a', b', r', e1, e2, e3⟩
        · rw [List.getElem?_append_right hi] at e2
          exact absurd rfl (hnr x (List.mem_of_getElem? e2) _ (List.mem_of_getElem? e3) a' b' r')
      refine .inr ⟨g2, cap2, cu, h1, h2, h3, by rw [List.length_append, lif_len, lif_len] at h4; rw [List.length_append]; exact h4, h5, fun o => hk _ (fun e => hidn e.symm) _ _ (h6 o), fun x hx => ?_, fun i x hx j c hc => ?_, fun p q v v' b hp hq hv hv' hb hb' => ?_⟩
      · rcases List.mem_append.1 hx with hx | hx
        · exact lnest_sz l1 x hx
        · exact lnest_sz l2 x hx
      · rcases Nat.lt_or_ge i xs.length with hi | hi
        · rw [List.getElem?_append_left hi] at hx
          obtain ⟨g, cap, v1, v2, k1, k2, k3, k4, k5⟩ := old i x hx j c hc
          refine ⟨v2, k4, ?_⟩
          cases c with
          | t t => exact hro k5
          | c x =>
            simp only [lifT, k2, Option.getD_some] at k5
            cases k5
            exact ⟨k3.1, (f2 _ _ k3.2).own hat hno⟩
          | row a' b' r' =>
            simp only [lifT, k2, Option.getD_some] at k5
            cases k5
            rcases k3 with k3 | ⟨g', cap', cu', o', q1, q0, q2, q3, q4, q5, q6, q7, q8, q9⟩
            · exact .inl k3
            · have hlt : g' < w.heap.size := (Array.getElem?_eq_some_iff.1 q3).1
              refine .inr ⟨g', cap', cu', o', q1, q0, fun e => ?_, f3 g' _ q3 (fun i g3 s3 c3 e1 e2 => ?_), q4, q5, q6, fun o => ?_, q8, fun i x hx j t ht => let ⟨u, m1, m2⟩ := q9 i x hx j t ht; ⟨u, m1, hro (f1 _ _ m2)⟩⟩
              · subst e
                rcases f5 _ _ _ h1 with m1 | ⟨i, s3, c3, m1, m2⟩
                · omega
                · cases m1
                  rw [k1] at m2
                  cases m2
                  exact q2 rfl
              · cases e1
                rw [k1] at e2
                cases e2
                exact q2
              · rcases f4 g' o hlt with m1 | ⟨_, _, m1⟩
                · exact hto _ _ (by rw [m1, q7])
                · exact hk _ (fun e => hidn e.symm) _ _ m1
        · rw [List.getElem?_append_right hi] at hx
          obtain ⟨g, cap, v1, k1, k2, k3⟩ := lnest_cell l2 hx hc
          obtain ⟨y, k4, k5⟩ := lif_put (cur := cur2) (sz := sz) hx hc
          obtain ⟨v2, k6, k7⟩ := h8 i y (by rw [List.getElem?_append_right (by rw [lif_len]; exact hi), lif_len]; exact k4) j _ k5
          refine ⟨v2, k6, ?_⟩
          cases c with
          | t t => exact hro k7
          | c x =>
            simp only [lifT, k2, Option.getD_some] at k7
            cases k7
            exact ⟨k3.1, (f2 _ _ k3.2).own hat hno⟩
          | row a' b' r' => exact absurd rfl (hnr x (List.mem_of_getElem? hx) _ (List.mem_of_getElem? hc) a' b' r')
      · rcases l1 with ⟨_, e1⟩ | ⟨g, cap, _, _, _, _, _, _, h9⟩
        · subst e1
          obtain ⟨i, j, x, a', b', r', _, e2, _⟩ := rowx p hp
          simp at e2
        · exact h9 p q v v' b (rowx p hp) (rowx q hq) (same p v (rowx p hp) hv) (same q v' (rowx q hq) hv') hb hb'
    · rename_i e0
      rw [obj_del] at hy
      split at hy
      · cases hy
      rename_i e1
      rw [obj_del] at hy
      split at hy
      · cases hy
      rename_i e2
      refine (hrel.objs q y ?_).own hat hno (hk q e2)
      rw [obj_new]
      split
      · rename_i e3; exact absurd e3 e0
      · rw [obj_del, if_neg e2]
        show look q (upd id2 _ (upd id _ st.objs)) = some y
        rw [look_upd, if_neg e1, look_upd, if_neg e2]
        exact hy
  · have h4 := hrel.fc.keep b o hb h0
    show (if E'.own b o = some id then _ else _) = _
    rw [if_neg (by rw [h4]; rcases h0 with h0 | h0 <;> rw [h0] <;> simp; omega), h4]
  · have h' : (if E'.own b o = some id then some st.next else E'.own b o) = some 0 := he
    split at h'
    · have := Option.some.inj h'; omega
    · exact hrel.fc.pos b o h'
theorem amOp_appendN (hΓ : TabOk P Γ) {t tx e e2 : TypeId} {x y : Operand} {r : Row} {id id2 : Nat} {xs ys : List (List NC)} (ho : o.op = .call { callee := .builtin .append, args := #[x, y], argTypes := #[t, tx] }) (ht : P.underlying t = some (.slice e)) (htx : ∃ e', P.underlying tx = some (.slice e')) (he : Γ e = some r)
    (hx : st.eval x = .c (.own id 0 xs.length)) (hob : st.obj id = some (.nest e r.size xs)) (hy : st.eval y = .c (.own id2 0 ys.length)) (hob2 : st.obj id2 = some (.nest e2 r.size ys)) (hne : id ≠ id2) (hnr : ∀ x, x ∈ ys → ∀ c, c ∈ x → ∀ a b q, c ≠ NC.row a b q) (hpos : 0 < ys.length)
    (hb : (xs.length + ys.length) * r.bytes ≤ 140737488355328) (hm : xs.length + ys.length ≤ maxLen) (hd : dstOk C.n o = true)
    (hK : K ((((st.delObj id).delObj id2).new (.nest e r.size (xs ++ ys))).put o.dst (.c (.own st.next 0 (xs.length + ys.length))))) : amOp P C o Q K st := by
  refine amOp_step hd hK fun E a w hr => ?_
  obtain ⟨cur1, ro1, l1⟩ := robj_lif (hr.objs _ _ hob)
  obtain ⟨cur2, ro2, l2⟩ := robj_lif (hr.objs _ _ hob2)
  have hr0 := (hr.toObj hob ro1).toObj (id := id2) (x := .nest e2 r.size ys) (by show look id2 (upd id _ st.objs) = _; rw [look_upd, if_neg (Ne.symm hne)]; exact hob2) ro2
  generalize hst0 : ((st.setObj id (.arr e r.size (lif cur1 r.size xs))).setObj id2 (.arr e2 r.size (lif cur2 r.size ys))) = st0 at hr0
  have hn0 : st0.next = st.next := by rw [← hst0]; rfl
  have hob0 : st0.obj id = some (.arr e r.size (lif cur1 r.size xs)) := by
    rw [← hst0]
    show look id (upd id2 _ (upd id _ st.objs)) = _
    rw [look_upd, if_neg hne, look_upd, if_pos rfl]
  have hob02 : st0.obj id2 = some (.arr e2 r.size (lif cur2 r.size ys)) := by
    rw [← hst0]
    show look id2 (upd id2 _ (upd id _ st.objs)) = _
    rw [look_upd, if_pos rfl]
  have hy0 : srcOf st0 r.size (.c (.own id2 0 ys.length)) = some (lif cur2 r.size ys) := by
    simp only [srcOf, hob02]
    rw [if_pos ⟨trivial, by rw [lif_len]; omega⟩, List.drop_zero, List.take_of_length_le (by rw [lif_len]; omega)]
  obtain ⟨news, hs, hfn⟩ := src_ok (P := P) hr0 (hr.eval y) (by rw [hy]; exact hy0) (.inl htx) (.inr htx) (.inl (fun s h => by rw [hy] at h; cases h))
  have h1 := hr.eval x
  rw [hx] at h1
  have hex : ∀ {v w'}, (Builtin.append_ #[t, tx] o.type #[a.eval x, a.eval y]).run P w = .ok v w' → (execOp a.eval o).run P w = .ok (.value v) w' := fun {v w'} hv => by
    simp [execOp, ho, resolve, invoke, builtin, hv]
  have l1n : (lif cur1 r.size xs).length = xs.length := lif_len _ _ _
  have l2n : (lif cur2 r.size ys).length = ys.length := lif_len _ _ _
  have key : ∃ E' v w', (Builtin.append_ #[t, tx] o.type #[a.eval x, a.eval y]).run P w = .ok v w' ∧ RelE E' C ((st0.delObj id).new (.arr e r.size (lif cur1 r.size xs ++ lif cur2 r.size ys))) a w' ∧ RC E' w' v (.own st.next 0 (xs.length + ys.length)) ∧ Fr E w E' w' st.next (some id) := by
    rcases rtC h1 with ⟨h6, h7, h8, h9⟩ | ⟨g, sz', cap, of, h6, h7, h8, h9⟩
    · have hxs : xs = [] := List.eq_nil_of_length_eq_zero h9
      subst hxs
      rw [h7]
      have := append_growF (xs := []) (ys := lif cur2 r.size ys) (sLen := 0) (sCap := 0) (base := none) (x := a.eval y) (ty := o.type) (tx := tx) hΓ (hr0.delObj id) ht he rfl Flat.nil (run_firstCells_none w.drew r.size 0 0 0) hs hfn (by omega) (by rw [l2n]; simpa using hb) (by rw [l2n]; simpa using hm)
      obtain ⟨E', v, w', h2, h3, h4, h5⟩ := this
      refine ⟨E', v, w', h2, h3, ?_, ?_⟩
      · rw [l2n] at h4; rw [← hn0]; exact h4
      · rw [← hn0]; exact h5 (some id)
    · have hro := hr0.objs _ _ hob0
      have hsz : sz' = r.size := by
        rcases hro with ⟨h9, _⟩ | ⟨g', cap', cur, h9, _⟩
        · rw [h6] at h9; cases h9
        · rw [h6] at h9; cases h9; rfl
      subst hsz
      rw [h7, Nat.sub_zero]
      rcases Nat.lt_or_ge cap (xs.length + ys.length) with hg | hg
      · obtain ⟨cur, h10, h11, h12, h13, h14, vs, h15, h16⟩ := arr_flat hro h6
        have hof : 0 < cap → of = 0 := fun h => by rw [h9 h]; omega
        have hvl := h15.len
        rw [l1n] at hvl
        have hold : (Builtin.firstCells r.size xs.length (.slice (some ⟨g, of, none⟩) xs.length cap)).run P w.drew = .ok vs.toArray w.drew := by
          refine run_firstCells_some w.drew r.size xs.length ⟨g, of, none⟩ xs.length cap _ hvl fun j u hu => ?_
          have hcap : 0 < cap := by
            have hj := (List.getElem?_eq_some_iff.1 hu).1
            rw [hvl] at hj
            rcases Nat.eq_zero_or_pos xs.length with e | e
            · rw [e] at hj; simp at hj
            · omega
          have := h16 j u hu
          rw [Nat.zero_add] at this
          rw [Addr.add_mid, hof hcap, Nat.zero_add]
          exact this
        obtain ⟨E', v, w', h17, h18, h19, h20⟩ := append_growF (ty := o.type) hΓ (hr0.delObj id) ht he l1n h15 hold hs hfn (by rw [l2n]; exact hg) (by rw [l2n]; exact hb) (by rw [l2n]; exact hm)
        refine ⟨E', v, w', h17, h18, ?_, ?_⟩
        · rw [l2n] at h19; rw [← hn0]; exact h19
        · rw [← hn0]; exact h20 (some id)
      · obtain ⟨E', v, w', h17, h18, h19, h20⟩ := append_roomF (of := of) (len := xs.length) (ty := o.type) hΓ hr0 ht he h6 hob0 (by rw [l1n]; omega) (fun h => by rw [h9 h]; omega) hs hfn (by rw [l2n]; exact hg)
        rw [List.take_of_length_le (by rw [l1n]; omega)] at h18
        refine ⟨E', v, w', h17, h18, ?_, ?_⟩
        · rw [l2n] at h19; rw [← hn0]; exact h19
        · rw [← hn0]; exact h20
  obtain ⟨E', v, w', h2, h3, h4, h5⟩ := key
  subst hst0
  obtain ⟨E'', h6, h7⟩ := app_fin hr hob hob2 hne hnr l1 l2 h3 h5
  exact ⟨E'', v, w', hex h2, h6, h7 _ _ h4⟩
/-! ### A row of one element that holds rows -/
def liftC (v : Value) : CV → Tree
  | .t t => t
  | _ => .v v
def plainOwn : CV → Bool
  | .t _ | .own _ _ _ => true
  | _ => false
theorem all2_lift {E : Env} {w : World} : ∀ {vs : List Value} {cs : List CV}, cs.all plainOwn = true → All2 (RC E w) vs cs → ∃ ts : List Tree, ts.length = cs.length ∧ All2 (RC E w) vs (ts.map .t) ∧ ∀ (j : Nat) (c : CV), cs[j]? = some c → ∃ v : Value, vs[j]? = some v ∧ RC E w v c ∧ v.oneCell' = true ∧ ts[j]? = some (liftC v c)
  | [], [], _, _ => ⟨[], rfl, trivial, fun j c h => by simp at h⟩
  | v :: vs, c :: cs, hp, h => by
    simp only [List.all_cons, Bool.and_eq_true] at hp
    obtain ⟨ts, h1, h2, h3⟩ := all2_lift hp.2 h.2
    have hone : v.oneCell' = true := by
      cases c with
      | t t => exact RO.one h.1
      | own id lo len =>
        rcases h.1 with ⟨_, rfl, _⟩ | ⟨g, sz, cap, o, _, rfl, _⟩
        · rfl
        · rfl
      | _ => cases hp.1
    refine ⟨liftC v c :: ts, by simp [h1], ⟨?_, h2⟩, fun j d hd => ?_⟩
    · cases c with
      | t t => exact h.1
      | own id lo len => exact .v _ hone
      | _ => cases hp.1
    · cases j with
      | zero => simp at hd; subst hd; exact ⟨v, rfl, h.1, hone, rfl⟩
      | succ j => simpa using h3 j d (by simpa using hd)
  | [], _ :: _, _, h => h.elim
  | _ :: _, [], _, h => h.elim
theorem treesOf_map : ∀ ts : List Tree, treesOf (ts.map .t) = some ts
  | [] => rfl
  | t :: ts => by simp [treesOf, treesOf_map ts]
theorem amOp_buildN (hΓ : TabOk P Γ) {t e : TypeId} {y : Operand} {r : Row} {cs : List CV} (ho : o.op = .buildSlice t 1 #[(0, y)]) (ht : P.underlying t = some (.slice e)) (he : Γ e = some r) (hy : st.eval y = .agg cs) (hcs : cs.all plainOwn = true) (hlen : cs.length = r.size)
    (hn : r.size ≤ 16777216) (hpos : 0 < r.size) (hd : dstOk C.n o = true) (hK : K ((st.new (.nest e r.size [cs.map ncOf])).put o.dst (.c (.own st.next 0 1)))) : amOp P C o Q K st := by
  refine amOp_step hd hK fun E a w hr => ?_
  obtain ⟨i, hi, hsz, hby, ⟨z, hz, hzc, _⟩, hzl, hall, _⟩ := (hΓ e r he).info
  have hye := hr.eval y
  rw [hy] at hye
  obtain ⟨vs0, hv1, hv2⟩ : ∃ vs : List Value, a.eval y = .agg vs.toArray ∧ All2 (RC E w) vs cs := hye
  obtain ⟨ts, t1, t2, t3⟩ := all2_lift hcs hv2
  have hvs : All2 (fun (v : Nat × Value) (p : Nat × TV) => v.1 = p.1 ∧ RT E w v.2 p.2) [(0, a.eval y)] [(0, TV.agg (ts.map .t))] := ⟨⟨rfl, vs0, hv1, t2⟩, trivial⟩
  have hc : rowsFrom r.size 0 [(0, TV.agg (ts.map .t))] = some [ts] := by
    have hj : (ts.map CV.t).any isJunk = false := by
      rw [List.any_eq_false]
      intro c hc
      obtain ⟨t, _, rfl⟩ := List.mem_map.1 hc
      simp [isJunk]
    have ht : (tvCells (TV.agg (ts.map .t))).bind treesOf = some ts := by simp only [tvCells, hj, Bool.false_eq_true, if_false, Option.bind_some, treesOf_map]
    simp only [rowsFrom]
    rw [ht]
    simp only [if_true, t1, hlen, Option.map_some]
  obtain ⟨cells', h1, h2, _, h3, h4, h5⟩ := fill_rows (sz := r.size) (k := 0) (cells := (Array.range (1 * r.size)).map (z.cells[· % z.cells.size]!)) hvs hc (by simp)
  have hst := step_new hr (.arr w.heap.size r.size 1) (.cells cells' e)
  have hnr : ∀ p, ¬ isRow [cs.map ncOf] r.size p := fun p hp => by
    obtain ⟨i, j, x, a', b', r', _, e2, e3⟩ := hp
    cases i with
    | zero =>
      simp only [List.getElem?_cons_zero, Option.some.injEq] at e2
      subst e2
      rw [List.getElem?_map] at e3
      cases hq : cs[j]? with
      | none => rw [hq] at e3; cases e3
      | some q => rw [hq] at e3; exact absurd (Option.some.inj e3) (ncOf_row _ _ _ _)
    | succ i => simp at e2
  refine ⟨_, .slice (some ⟨w.heap.size, 0, none⟩) 1 1, w.alloc (.cells cells' e), ?_, hr.new (.arr w.heap.size r.size 1) _ _ (.inr ⟨w.heap.size, 1, cells', by simp [Env.new], Go.heap_alloc_new w _, by simp [h2], by simp, by decide, fun o => by simp [Env.new], fun x hx => ?_, fun i x hx j c hcc => ?_, fun p q v v' b hp => absurd hp (hnr p)⟩), .inr ⟨w.heap.size, r.size, 1, 0, by simp [Env.new], rfl, by omega, fun _ => by omega⟩⟩
  · have hbig : ¬ (2 ^ 24 < 1 * r.size) := by omega
    have hne : ¬ 1 * r.size = 0 := by omega
    have h1' := h1
    simp [execOp, ho, Instr.buildSlice, run_underlying ht, run_sizeOf hΓ he, zeroValue, typeInfo, hi, hz, newRow] at h1' ⊢
    rw [if_neg (by omega), if_neg (by omega)]
    simp [h1']
  · rw [List.mem_singleton] at hx
    subst hx
    simp [hlen]
  · cases i with
    | succ i => simp at hx
    | zero =>
      simp only [List.getElem?_cons_zero, Option.some.injEq] at hx
      subst hx
      rw [List.getElem?_map] at hcc
      cases hq : cs[j]? with
      | none => rw [hq] at hcc; cases hcc
      | some q =>
        rw [hq] at hcc
        cases hcc
        obtain ⟨v, k1, k2, k3, k4⟩ := t3 j q hq
        obtain ⟨u, k5, k6⟩ := h5 0 ts rfl j _ k4
        refine ⟨u, by rw [Nat.zero_mul, Nat.zero_add]; rw [Nat.zero_add, Nat.zero_mul, Nat.zero_add] at k5; exact k5, ?_⟩
        cases q with
        | t t => exact hst.ro k6
        | own id lo len =>
          have k6' : RO w (roE E) u (.v v) := k6
          cases k6'
          exact ⟨k3, hst.rc k2⟩
        | _ => exact absurd (List.all_eq_true.1 hcs _ (List.mem_of_getElem? hq)) (by simp [plainOwn])
section
variable {ops : Array Oper} {s0 : St}
theorem opOK_buildN (hΓ : TabOk P Γ) (hd : dstOk C.n o = true) (hg : Goes ops o s0) {t e : TypeId} {y : Operand} {r : Row} {cs : List CV} (ho : o.op = .buildSlice t 1 #[(0, y)]) (ht : elemT Γ t = some (e, r)) (hy : s0.eval y = .agg cs) (hcs : cs.all plainOwn = true) (hlen : cs.length = r.size)
    (hn : r.size ≤ 16777216) (hpos : 0 < r.size) : OpOK P C ops o ⟨.c (.own s0.next 0 1), [], [(s0.next, .nest e r.size [cs.map ncOf])], [], 1⟩ s0 := by
  refine opOK_of hg fun st h1 h2 h3 Q K hK => ?_
  have hnx : st.next = s0.next := h3 (by simp)
  obtain ⟨g1, g2⟩ := elemT_ok hΓ ht
  refine amOp_buildN hΓ ho g1 g2 (by rw [h1 y (by rw [ho]; simp [Op.operands])]; exact hy) hcs hlen hn hpos hd (hK _ ?_)
  unfold app St.put St.new
  rw [hnx]
  cases o.dst <;> exact EqV.refl _
theorem opOK_appN (hΓ : TabOk P Γ) (hd : dstOk C.n o = true) (hg : Goes ops o s0) {t tx e e2 ex : TypeId} {x y : Operand} {r rx : Row} {id id2 : Nat} {xs ys : List (List NC)} (ho : o.op = .call { callee := .builtin .append, args := #[x, y], argTypes := #[t, tx] }) (ht : elemT Γ t = some (e, r)) (htx : elemT Γ tx = some (ex, rx))
    (hx : s0.eval x = .c (.own id 0 xs.length)) (hob : s0.obj id = some (.nest e r.size xs)) (hy : s0.eval y = .c (.own id2 0 ys.length)) (hob2 : s0.obj id2 = some (.nest e2 r.size ys)) (hne : id ≠ id2) (hnr : ∀ x, x ∈ ys → ∀ c, c ∈ x → ∀ a b q, c ≠ NC.row a b q) (hpos : 0 < ys.length)
    (hb : (xs.length + ys.length) * r.bytes ≤ 140737488355328) (hm : xs.length + ys.length ≤ maxLen) : OpOK P C ops o ⟨.c (.own s0.next 0 (xs.length + ys.length)), [id, id2], [(s0.next, .nest e r.size (xs ++ ys))], [id, id2], 1⟩ s0 := by
  refine opOK_of hg fun st h1 h2 h3 Q K hK => ?_
  have hnx : st.next = s0.next := h3 (by simp)
  obtain ⟨g1, g2⟩ := elemT_ok hΓ ht
  obtain ⟨g3, _⟩ := elemT_ok hΓ htx
  refine amOp_appendN hΓ ho g1 ⟨_, g3⟩ g2 (by rw [h1 x (by rw [ho]; simp [Op.operands, Call.operands])]; exact hx) (by rw [h2 id (by simp)]; exact hob) (by rw [h1 y (by rw [ho]; simp [Op.operands, Call.operands])]; exact hy) (by rw [h2 id2 (by simp)]; exact hob2) hne hnr hpos hb hm hd (hK _ ?_)
  unfold app St.put St.new St.delObj
  simp only [hnx]
  cases o.dst <;> exact EqV.refl _
end
end
attribute [go_sem] ncOf
end Go.Proofs.YthnpbfljoghbmaaA
