/- The calculus, seventh part: rows that are made: append, make. -/
import Derived.Test.YthnpbfljoghbmaaB1
import Derived.Deep.AppendSrc
import Derived.Laws.MakeOwn
import Derived.KernelRfl
namespace Go.Proofs.YthnpbfljoghbmaaA
set_option autoImplicit false
set_option linter.unusedVariables false

/-- The cells of a row, one behind the other. -/
structure Flat (w : World) (A : Nat → Nat → Prop) (sz : Nat) (xs : List (List Tree)) (vs : List Value) : Prop where
  len : vs.length = xs.length * sz
  row : ∀ x, x ∈ xs → x.length = sz
  ro : ∀ (i : Nat) (x : List Tree), xs[i]? = some x → ∀ (j : Nat) (t : Tree), x[j]? = some t → ∃ v, vs[i * sz + j]? = some v ∧ RO w A v t

theorem div_lt_len {k n sz : Nat} (h : k < n * sz) : k / sz < n ∧ k % sz < sz ∧ k / sz * sz + k % sz = k := by
  have hs : 0 < sz := by
    rcases Nat.eq_zero_or_pos sz with e | e
    · subst e; simp at h
    · exact e
  refine ⟨(Nat.div_lt_iff_lt_mul hs).2 h, Nat.mod_lt _ hs, ?_⟩
  rw [Nat.mul_comm]; exact Nat.div_add_mod k sz
theorem idx_lt {i j n sz : Nat} (hi : i < n) (hj : j < sz) : i * sz + j < n * sz := by
  have : (i + 1) * sz ≤ n * sz := Nat.mul_le_mul_right _ hi
  rw [Nat.add_mul] at this
  omega
section
variable {w w' : World} {A A' : Nat → Nat → Prop} {sz : Nat} {xs ys : List (List Tree)} {vs us : List Value}
theorem Flat.at_ (h : Flat w A sz xs vs) {k : Nat} (hk : k < xs.length * sz) : ∃ (v : Value) (t : Tree), vs[k]? = some v ∧ RO w A v t := by
  obtain ⟨h1, h2, h3⟩ := div_lt_len hk
  have hx : xs[k / sz]? = some xs[k / sz] := List.getElem?_eq_getElem h1
  have hl := h.row xs[k / sz] (List.getElem_mem h1)
  obtain ⟨v, h4, h5⟩ := h.ro _ _ hx (k % sz) _ (List.getElem?_eq_getElem (by omega))
  rw [h3] at h4
  exact ⟨v, _, h4, h5⟩
theorem Flat.one (h : Flat w A sz xs vs) : ∀ u, u ∈ vs → u.oneCell' = true := by
  intro u hu
  obtain ⟨k, hk, rfl⟩ := List.getElem_of_mem hu
  obtain ⟨v, t, h1, h2⟩ := h.at_ (k := k) (by rw [← h.len]; exact hk)
  rw [List.getElem?_eq_getElem hk] at h1
  cases h1
  exact h2.one
theorem Flat.mono (h : Flat w A sz xs vs) (hm : ∀ v t, RO w A v t → RO w' A' v t) : Flat w' A' sz xs vs :=
  ⟨h.len, h.row, fun i x hx j t ht => let ⟨v, h1, h2⟩ := h.ro i x hx j t ht; ⟨v, h1, hm _ _ h2⟩⟩
theorem Flat.append (h : Flat w A sz xs vs) (k : Flat w A sz ys us) : Flat w A sz (xs ++ ys) (vs ++ us) := by
  refine ⟨by simp [h.len, k.len, Nat.add_mul], fun x hx => (List.mem_append.1 hx).elim (h.row x) (k.row x), fun i x hx j t ht => ?_⟩
  have hj : j < sz := by
    have := (List.getElem?_eq_some_iff.1 ht).1
    rcases List.mem_append.1 (List.mem_of_getElem? hx) with h1 | h1
    · rw [h.row x h1] at this; exact this
    · rw [k.row x h1] at this; exact this
  by_cases hi : i < xs.length
  · rw [List.getElem?_append_left hi] at hx
    obtain ⟨v, h1, h2⟩ := h.ro i x hx j t ht
    exact ⟨v, by rw [List.getElem?_append_left (by rw [h.len]; exact idx_lt hi hj)]; exact h1, h2⟩
  · rw [List.getElem?_append_right (by omega)] at hx
    obtain ⟨v, h1, h2⟩ := k.ro _ x hx j t ht
    refine ⟨v, ?_, h2⟩
    have e : i * sz + j = vs.length + ((i - xs.length) * sz + j) := by
      rw [h.len, ← Nat.add_assoc, ← Nat.add_mul]; congr 2; omega
    rw [e, List.getElem?_append_right (by omega), Nat.add_sub_cancel_left]
    exact h1
theorem Flat.take (h : Flat w A sz xs vs) (n : Nat) : Flat w A sz (xs.take n) (vs.take (n * sz)) := by
  refine ⟨?_, fun x hx => h.row x (List.mem_of_mem_take hx), fun i x hx j t ht => ?_⟩
  · rw [List.length_take, List.length_take, h.len]
    rcases Nat.le_total n xs.length with h1 | h1
    · rw [Nat.min_eq_left h1, Nat.min_eq_left (Nat.mul_le_mul_right _ h1)]
    · rw [Nat.min_eq_right h1, Nat.min_eq_right (Nat.mul_le_mul_right _ h1)]
  · rw [List.getElem?_take] at hx
    split at hx
    · rename_i hi
      obtain ⟨v, h1, h2⟩ := h.ro i x hx j t ht
      have hj : j < sz := by rw [← h.row x (List.mem_of_getElem? hx)]; exact (List.getElem?_eq_some_iff.1 ht).1
      exact ⟨v, by rw [List.getElem?_take, if_pos (idx_lt hi hj)]; exact h1, h2⟩
    · cases hx
theorem Flat.drop (h : Flat w A sz xs vs) (n : Nat) : Flat w A sz (xs.drop n) (vs.drop (n * sz)) := by
  refine ⟨by simp [h.len, Nat.sub_mul], fun x hx => h.row x (List.mem_of_mem_drop hx), fun i x hx j t ht => ?_⟩
  rw [List.getElem?_drop] at hx
  obtain ⟨v, h1, h2⟩ := h.ro _ x hx j t ht
  exact ⟨v, by rw [List.getElem?_drop, ← Nat.add_assoc, ← Nat.add_mul]; exact h1, h2⟩
theorem Flat.nil : Flat w A sz [] [] := ⟨by simp, (fun x hx => by cases hx), (fun i x hx => by simp at hx)⟩
/-- Cells that are all told: their values. -/
theorem flat_of_cells {g off : Nat} (hrow : ∀ x, x ∈ xs → x.length = sz) (h : ∀ (i : Nat) (x : List Tree), xs[i]? = some x → ∀ (j : Nat) (t : Tree), x[j]? = some t → ∃ v, w.cell? ⟨g, off + i * sz + j, none⟩ = some v ∧ RO w A v t) :
    ∃ vs, Flat w A sz xs vs ∧ w.rangeAt g off vs := by
  have hk : ∀ k, k < xs.length * sz → ∃ v, w.cell? ⟨g, off + k, none⟩ = some v := fun k hk => by
    obtain ⟨h1, h2, h3⟩ := div_lt_len hk
    have hl := hrow xs[k / sz] (List.getElem_mem h1)
    obtain ⟨v, h4, _⟩ := h _ _ (List.getElem?_eq_getElem h1) (k % sz) _ (List.getElem?_eq_getElem (by omega))
    rw [Nat.add_assoc, h3] at h4
    exact ⟨v, h4⟩
  refine ⟨(List.range (xs.length * sz)).map fun k => (w.cell? ⟨g, off + k, none⟩).getD undef, ⟨by simp, hrow, fun i x hx j t ht => ?_⟩, fun j v hv => ?_⟩
  · obtain ⟨v, h1, h2⟩ := h i x hx j t ht
    have hi := (List.getElem?_eq_some_iff.1 hx).1
    have hj : j < sz := by rw [← hrow x (List.mem_of_getElem? hx)]; exact (List.getElem?_eq_some_iff.1 ht).1
    refine ⟨v, ?_, h2⟩
    rw [List.getElem?_map, List.getElem?_range (idx_lt hi hj)]
    simp only [Option.map_some]
    rw [← Nat.add_assoc, h1]
    rfl
  · rw [List.getElem?_map] at hv
    have hj : j < xs.length * sz := by
      rcases Nat.lt_or_ge j (xs.length * sz) with h1 | h1
      · exact h1
      · rw [List.getElem?_eq_none (by simpa using h1)] at hv; cases hv
    rw [List.getElem?_range hj] at hv
    obtain ⟨u, hu⟩ := hk j hj
    rw [Option.map_some, hu] at hv
    cases hv
    exact hu
end

section
variable {P : Program} {Γ : Nat → Option Row} {C : Ctx} {Q : Exit → St → Prop} {st : St} {o : Oper} {K : St → Prop} {E : Env} {a : Act} {w : World}
abbrev roE (E : Env) : Nat → Nat → Prop := fun b o => E.own b o = none

theorem arr_flat {id : Nat} {ty sz : Nat} {xs : List (List Tree)} (h : RObj E w id (.arr ty sz xs)) {g cap : Nat} (hat : E.at_ id = some (.arr g sz cap)) : ∃ cur, w.heap[g]? = some (.cells cur ty (0, 0)) ∧ cur.size = cap * sz ∧ xs.length ≤ cap ∧ cap ≤ maxLen ∧ (∀ o, E.own g o = some id) ∧
    ∃ vs, Flat w (roE E) sz xs vs ∧ w.rangeAt g 0 vs := by
  rcases h with ⟨h1, _⟩ | ⟨g', cap', cur, h1, h2, h3, h4, h5, h6, h7, h8⟩
  · rw [hat] at h1; cases h1
  rw [hat] at h1; cases h1
  refine ⟨cur, h2, h3, h4, h5, h6, flat_of_cells h7 fun i x hx j t ht => ?_⟩
  obtain ⟨v, h9, h10⟩ := h8 i x hx j t ht
  exact ⟨v, by rw [cur_cell h2, Nat.zero_add]; exact h9, h10⟩
theorem robj_of_flat {id ty sz g cap : Nat} {cur : Array Value} {xs : List (List Tree)} {vs : List Value} (hat : E.at_ id = some (.arr g sz cap)) (hg : w.heap[g]? = some (.cells cur ty (0, 0))) (hs : cur.size = cap * sz) (hl : xs.length ≤ cap) (hm : cap ≤ maxLen)
    (ho : ∀ o, E.own g o = some id) (hf : Flat w (roE E) sz xs vs) (hc : ∀ (k : Nat) (v : Value), vs[k]? = some v → cur[k]? = some v) : RObj E w id (.arr ty sz xs) :=
  .inr ⟨g, cap, cur, hat, hg, hs, hl, hm, ho, hf.row, fun i x hx j t ht => let ⟨v, h1, h2⟩ := hf.ro i x hx j t ht; ⟨v, hc _ _ h1, h2⟩⟩

/-- What an append's second argument yields. -/
def srcOf (st : St) (sz : Nat) : TV → Option (List (List Tree))
  | .c (.t (.sl s ys)) => if s = sz then some ys else none
  | .c (.own id lo len) => match st.obj id with
    | some (.arr _ s ys) => if s = sz ∧ lo + len ≤ ys.length then some ((ys.drop lo).take len) else none
    | _ => none
  | .c (.t (.v (.slice none 0 _))) => some []
  | .c (.t (.v (.string s))) => if sz = 1 then some (s.data.toList.map fun b => [.v (.int .u8 b.toNat)]) else none
  | _ => none
theorem addr_range {g off : Nat} {vs : List Value} (h : w.rangeAt g off vs) : ∀ j u, vs[j]? = some u → w.cell? ((⟨g, off, none⟩ : Addr).add j) = some u := fun j u hu => by
  rw [Addr.add_mid]; exact h j u hu
theorem src_ok (hr : RelE E C st a w) {sz tx : Nat} {v : Value} {x : TV} {ys : List (List Tree)} (hx : RT E w v x) (hs : srcOf st sz x = some ys) (hk : (∃ e', P.underlying tx = some (.slice e')) ∨ P.underlying tx = some .string)
    (hk2 : (∃ s, x = lit (.string s)) ∨ (∃ e', P.underlying tx = some (.slice e'))) (hk3 : (∀ s, x ≠ lit (.string s)) ∨ P.underlying tx = some .string) : ∃ news, Src P sz tx v ys.length news w ∧ Flat w (roE E) sz ys news := by
  have sliceK : (∀ s, x ≠ lit (.string s)) → ∃ e', P.underlying tx = some (.slice e') := fun h => hk2.resolve_left fun ⟨s, hs⟩ => h s hs
  unfold srcOf at hs
  split at hs
  · rename_i s zs
    split at hs
    · rename_i e; subst e; cases hs
      obtain ⟨e', he'⟩ := sliceK (fun s h => by cases h)
      obtain ⟨ad, cap, g, off, f, h2, h3, h4, h5, h6, h7, h8⟩ := ro_slice (rtT hx)
      obtain ⟨vs, h9, h10⟩ := flat_of_cells (w := w) (A := roE E) (g := g) (off := off) h5 fun i x hx j t ht => by
        have hi := (List.getElem?_eq_some_iff.1 hx).1
        have hj : j < s := by rw [← h5 x (List.mem_of_getElem? hx)]; exact (List.getElem?_eq_some_iff.1 ht).1
        exact ⟨_, (h7 i j hi hj).2, h8 i x hx j t ht⟩
      subst h2
      cases hz : ys with
      | nil =>
        subst hz
        have hv0 : vs = [] := List.eq_nil_of_length_eq_zero (by rw [h9.len]; simp)
        subst hv0
        cases ad with
        | none => exact ⟨[], Src.ofNil w he' cap, h9⟩
        | some ad => exact ⟨[], Src.ofSlice w he' ad 0 cap [] (by simp) (fun j u h => by simp at h) (fun u h => by cases h), h9⟩
      | cons y ys' =>
        rw [← hz]
        have := h6 (by rw [hz]; simp)
        subst this
        exact ⟨vs, Src.ofSlice w he' _ _ cap vs h9.len (addr_range h10) h9.one, h9⟩
    · cases hs
  · rename_i id lo len
    split at hs
    · rename_i ty s zs hob
      split at hs
      · rename_i e
        obtain ⟨e1, hle⟩ := e
        subst e1; cases hs
        obtain ⟨e', he'⟩ := sliceK (fun s h => by cases h)
        have hlen : ((zs.drop lo).take len).length = len := by rw [List.length_take, List.length_drop]; omega
        rcases rtC hx with ⟨h2, h3, h4, h5⟩ | ⟨g, sz', cap, of, h2, h3, h4, h5⟩
        · subst h5
          subst h3
          simp only [List.take_zero, List.length_nil]
          exact ⟨[], Src.ofNil w he' 0, Flat.nil⟩
        · have hro := hr.objs _ _ hob
          have hsz : sz' = s := by
            rcases hro with ⟨h9, _⟩ | ⟨g', cap', cur, h9, _⟩
            · rw [h2] at h9; cases h9
            · rw [h2] at h9; cases h9; rfl
          subst hsz
          obtain ⟨cur, h9, h10, h11, h12, h13, vs, h14, h15⟩ := arr_flat hro h2
          have hfl := (h14.drop lo).take len
          rw [hlen]
          subst h3
          refine ⟨_, Src.ofSlice w he' _ _ _ _ (by rw [hfl.len, hlen]) ?_ hfl.one, hfl⟩
          intro j u hu
          rw [List.getElem?_take] at hu
          split at hu
          · rename_i hj
            rw [List.getElem?_drop] at hu
            have hlt : lo < cap := by
              rcases Nat.eq_zero_or_pos len with e | e
              · subst e; simp at hj
              · omega
            rw [Addr.add_mid, h5 hlt]
            have := h15 _ u hu
            rwa [Nat.zero_add] at this
          · cases hu
      · cases hs
    · cases hs
  · cases hs
    obtain ⟨e', he'⟩ := sliceK (fun s h => by cases h)
    have h2 := ro_v (rtT hx)
    subst h2
    exact ⟨[], Src.ofNil w he' _, Flat.nil⟩
  · rename_i s
    split at hs
    · rename_i e; subst e; cases hs
      have h2 := ro_v (rtT hx)
      subst h2
      have hku : P.underlying tx = some .string := hk3.resolve_left fun h => h s rfl
      refine ⟨byteCells s, ?_, ⟨by simp [byteCells], fun x hx => ?_, fun i x hx j t ht => ?_⟩⟩
      · have := Src.ofString (P := P) w hku s
        rw [List.length_map, Array.length_toList]
        exact this
      · obtain ⟨b, _, rfl⟩ := List.mem_map.1 hx; rfl
      · rw [List.getElem?_map] at hx
        cases hb : s.data.toList[i]? with
        | none => rw [hb] at hx; cases hx
        | some b =>
          rw [hb] at hx
          cases hx
          cases j with
          | zero =>
            simp at ht
            subst ht
            exact ⟨_, by rw [byteCells, List.getElem?_map, Nat.mul_one, Nat.add_zero, hb]; rfl, .v _ rfl⟩
          | succ j => simp at ht
    · cases hs
  · cases hs
end
end Go.Proofs.YthnpbfljoghbmaaA
/- The calculus, eighth part: append. -/
namespace Go.Proofs.YthnpbfljoghbmaaA
set_option autoImplicit false
set_option linter.unusedVariables false

section
variable {P : Program} {Γ : Nat → Option Row} {C : Ctx} {Q : Exit → St → Prop} {st : St} {o : Oper} {K : St → Prop} {E E' : Env} {a : Act} {w w' : World} {ch : Nat → Prop}

theorem Step.env (s : Step E E w w' ch) (hat : ∀ id B, E.at_ id = some B → E'.at_ id = some B) (hn : ∀ b o, E.own b o = none → E'.own b o = none) (hs : ∀ b o id, E.own b o = some id → ¬ ch id → E'.own b o = some id) (hp : ∀ b o, E'.own b o = some 0 → E.own b o = some 0) : Step E E' w w' ch :=
  { s with pos := (fun b o h => hp b o h), at_ := hat, none_ := fun b o _ h => hn b o h, some_ := hs, fresh := fun b o h => hn b o (s.fresh b o h) }
theorem Step.drew (hf : ∀ b o, w.heap.size ≤ b → E.own b o = none) : Step E E w w.drew (fun _ => False) :=
  ⟨rfl, rfl, rfl, Nat.le_refl _, fun h => h, fun _ _ h => h, fun _ _ _ h => h, fun _ _ _ h _ => h, fun _ _ _ h _ => h, fun _ cur _ _ h => ⟨cur, h, rfl⟩, fun _ _ _ _ h _ _ => h, fun _ _ _ => rfl, hf, fun _ _ h => h⟩
theorem RelE.drew (h : RelE E C st a w) : RelE E C st a w.drew := h.step (Step.drew h.fc.fresh) rfl h.next h.zero h.npos fun id o ho => .inl ⟨ho, fun h => h⟩
theorem obj_del (st : St) (id k : Nat) : (st.delObj id).obj k = if k = id then none else st.obj k := by simp [St.delObj, St.obj, look_del]
theorem RelE.delObj (h : RelE E C st a w) (id : Nat) : RelE E C (st.delObj id) a w :=
  ⟨h.tmps, h.size, h.defers, fun k x hx => h.objs k x (by rw [obj_del] at hx; split at hx; · cases hx
                                                          · exact hx), h.next, h.zero, h.npos, h.dom, h.fc⟩

/-- Where an append goes to: the row that it takes (if any), what stands in it. -/
def dstOf (st : St) (e sz : Nat) : TV → Option (Option Nat × List (List Tree))
  | .c (.t (.v (.slice none 0 0))) => some (none, [])
  | .c (.own id lo len) => match st.obj id with
    | some (.arr ty s xs) => if lo = 0 ∧ ty = e ∧ s = sz ∧ len ≤ xs.length then some (some id, xs.take len) else none
    | _ => none
  | _ => none
def St.delOpt (st : St) : Option Nat → St
  | none => st
  | some id => st.delObj id
theorem delOpt_next (st : St) (x : Option Nat) : (st.delOpt x).next = st.next := by cases x <;> rfl
theorem RelE.delOpt (h : RelE E C st a w) (x : Option Nat) : RelE E C (st.delOpt x) a w := by
  cases x with
  | none => exact h
  | some id => exact h.delObj id

/-- A row that is no row yet. -/
theorem RelE.newNil (h : RelE E C st a w) (ty sz : Nat) : RelE ⟨fun k => if k = st.next then some .nil else E.at_ k, E.own⟩ C (st.new (.arr ty sz [])) a w := by
  refine h.step (ch := fun _ => False) ((Step.refl h.fc.fresh).env (fun id B hB => ?_) (fun _ _ h => h) (fun _ _ _ h _ => h) fun _ _ h => h) rfl (fun id hid => ?_) (by show (if 0 = st.next then some Base.nil else E.at_ 0) = none; rw [if_neg (Nat.ne_of_lt h.npos)]; exact h.zero) (Nat.succ_pos _) fun id y hy => ?_
  · show (if id = st.next then some Base.nil else E.at_ id) = some B
    rw [if_neg (fun e => by subst e; rw [h.next _ (Nat.le_refl _)] at hB; cases hB)]
    exact hB
  · simp only [St.new] at hid
    show (if id = st.next then some Base.nil else E.at_ id) = none
    rw [if_neg (by omega)]
    exact h.next id (by omega)
  · rw [obj_new] at hy
    split at hy
    · rename_i e; subst e; cases hy; exact .inr (.inl ⟨if_pos rfl, rfl⟩)
    · exact .inl ⟨hy, fun h => h⟩

theorem append_grow (hΓ : TabOk P Γ) (hr : RelE E C st a w) {t tx e : TypeId} {r : Row} (ht : P.underlying t = some (.slice e)) (he : Γ e = some r) {base : Option Addr} {sLen sCap : Nat} {olds news : List Value} {xs ys : List (List Tree)} {x : Value} {ty : TypeId}
    (hx : xs.length = sLen) (hfo : Flat w (roE E) r.size xs olds) (hold : (Builtin.firstCells r.size sLen (.slice base sLen sCap)).run P w.drew = .ok olds.toArray w.drew) (hs : Src P r.size tx x ys.length news w) (hfn : Flat w (roE E) r.size ys news)
    (hg : sCap < sLen + ys.length) (hb : (sLen + ys.length) * r.bytes ≤ 140737488355328) (hm : sLen + ys.length ≤ maxLen) :
    ∃ E' v w', (Builtin.append_ #[t, tx] ty #[.slice base sLen sCap, x]).run P w = .ok v w' ∧ RelE E' C (st.new (.arr e r.size (xs ++ ys))) a w' ∧ RC E' w' v (.own st.next 0 (sLen + ys.length)) := by
  obtain ⟨i, hi, hsz, hby, ⟨z, hz, hzc, _⟩, hzl, hall, _⟩ := (hΓ e r he).info
  have hlen : z.cells.size = r.size := by rw [← Array.length_toList, hzc, hzl]
  subst hx
  rw [← hsz] at hold hs
  have h63 : ((xs.length + ys.length : Nat) : Int) ≤ 9223372036854775807 := by unfold maxLen at hm; omega
  have hrun := run_append_grow_src (P := P) w t tx ty e i z ht hi hz base xs.length sCap olds hold x ys.length news hs hg h63 (growslice_fits hg (by rw [hby]; exact hb))
  generalize hc : grownCap w (xs.length + ys.length) sCap e = cap at hrun
  have hge : xs.length + ys.length ≤ cap := by rw [← hc]; exact grownCap_ge _ _ _ _
  have hle : cap ≤ maxLen := by rw [← hc]; exact grownCap_le_maxLen _ _ _ _ hm
  have hrd := hr.drew
  have hfl := hfo.append hfn
  refine ⟨_, _, _, hrun, hrd.new (.arr w.heap.size r.size cap) _ _ ?_, .inr ⟨w.heap.size, r.size, cap, 0, by show (if st.next = st.next then _ else _) = _; rw [if_pos rfl], rfl, by omega, fun _ => by omega⟩⟩
  have hst := step_new hrd (.arr w.heap.size r.size cap) (.cells ((olds ++ news).toArray ++ Builtin.zeroCells z.cells (cap - (xs.length + ys.length))) e)
  refine robj_of_flat (g := w.heap.size) (cap := cap) (vs := olds ++ news) (by show (if st.next = st.next then _ else _) = _; rw [if_pos rfl]) (Go.heap_alloc_new w.drew _) ?_ (by rw [List.length_append]; exact hge) hle (fun o => by show (if w.heap.size = w.heap.size then _ else _) = _; rw [if_pos rfl]) (hfl.mono fun v t h => hst.ro ((Step.drew hr.fc.fresh).ro h)) fun k v hv => ?_
  · rw [Array.size_append, size_zeroCells, List.size_toArray, hfl.len, hlen, List.length_append, ← Nat.add_mul]
    congr 1
    omega
  · rw [Array.getElem?_append_left (by simpa using (List.getElem?_eq_some_iff.1 hv).1)]
    simpa using hv

theorem append_room (hΓ : TabOk P Γ) (hr : RelE E C st a w) {t tx e : TypeId} {r : Row} (ht : P.underlying t = some (.slice e)) (he : Γ e = some r) {id g of len cap : Nat} {news : List Value} {xs ys : List (List Tree)} {x : Value} {ty : TypeId}
    (hat : E.at_ id = some (.arr g r.size cap)) (hob : st.obj id = some (.arr e r.size xs)) (hlen : len ≤ xs.length) (hof : 0 < cap → of = 0) (hs : Src P r.size tx x ys.length news w) (hfn : Flat w (roE E) r.size ys news) (hroom : len + ys.length ≤ cap) :
    ∃ E' v w', (Builtin.append_ #[t, tx] ty #[.slice (some ⟨g, of, none⟩) len cap, x]).run P w = .ok v w' ∧ RelE E' C ((st.delObj id).new (.arr e r.size (xs.take len ++ ys))) a w' ∧ RC E' w' v (.own st.next 0 (len + ys.length)) := by
  obtain ⟨i, hi, hsz, _⟩ := (hΓ e r he).info
  obtain ⟨cur, h1, h2, h3, h4, h5, vs, h6, h7⟩ := arr_flat (hr.objs _ _ hob) hat
  have hnl := hfn.len
  have hlt : len = (xs.take len).length := by rw [List.length_take, Nat.min_eq_left hlen]
  have hcell : ∀ j, j < news.length → of = 0 ∧ len * r.size + j < cur.size := fun j hj => by
    rcases Nat.eq_zero_or_pos cap with e0 | e0
    · have : ys.length = 0 := by omega
      rw [hnl, this] at hj; simp at hj
    · refine ⟨hof e0, ?_⟩
      rw [h2]
      have : (len + ys.length) * r.size ≤ cap * r.size := Nat.mul_le_mul_right _ hroom
      rw [Nat.add_mul] at this
      omega
  have hrun := run_append_room_src (P := P) w t tx ty e i ht hi g of len cap x ys.length news (by rw [hsz]; exact hs) hroom
    (fun j hj => by
      obtain ⟨h8, h9⟩ := hcell j hj
      rw [h8, hsz, Nat.zero_add, cur_cell h1, Array.getElem?_eq_getElem h9]; rfl)
    (fun j hj => frozen_of_row w g _ cur e h1)
  rw [hsz] at hrun
  have hst0 := step_store hr (g := g) (o := of + len * r.size) (vs := news) (id := id) (obj_pos hr hob) (fun j _ => h5 _)
  let E1 : Env := ⟨fun k => if k = st.next then some (.arr g r.size cap) else E.at_ k, fun b o => if E.own b o = some id then some st.next else E.own b o⟩
  have hst : Step E E1 w (w.setCells g (of + len * r.size) news) (fun k => k = id) := hst0.env
    (fun k B hB => by
      show (if k = st.next then _ else _) = _
      rw [if_neg (fun e => by subst e; rw [hr.next _ (Nat.le_refl _)] at hB; cases hB)]
      exact hB)
    (fun b o h => by show (if E.own b o = some id then _ else _) = _; rw [if_neg (by rw [h]; simp)]; exact h)
    (fun b o k h hk => by show (if E.own b o = some id then _ else _) = _; rw [if_neg (by rw [h]; intro e; cases e; exact hk rfl)]; exact h)
    (fun b o h => by
      have h' : (if E.own b o = some id then some st.next else E.own b o) = some 0 := h
      split at h'
      · have := hr.npos; have := Option.some.inj h'; omega
      · exact h')
  have hat1 : E1.at_ st.next = some (.arr g r.size cap) := if_pos rfl
  refine ⟨E1, _, _, hrun, hr.step hst rfl (fun k hk => ?_) (by show (if 0 = st.next then _ else _) = _; rw [if_neg (Nat.ne_of_lt hr.npos)]; exact hr.zero) (Nat.succ_pos _) fun k y hy => ?_, .inr ⟨g, r.size, cap, of, hat1, rfl, by omega, fun h => by rw [hof h]; omega⟩⟩
  · have hk' : st.next + 1 ≤ k := hk
    show (if k = st.next then _ else _) = _
    rw [if_neg (by omega)]
    exact hr.next k (by omega)
  · rw [obj_new] at hy
    split at hy
    · rename_i e1
      have e2 : k = st.next := e1
      subst e2
      cases hy
      right
      obtain ⟨cur', h8, h9, h10⟩ := setCells_cur g news (of + len * r.size) w cur e (0, 0) h1
      have hfl := ((h6.take len).append hfn).mono (w' := w.setCells g (of + len * r.size) news) (A' := roE E1) fun v t h => hst.ro h
      refine robj_of_flat hat1 h8 (by rw [h9, h2]) (by rw [List.length_append, ← hlt]; exact hroom) h4 (fun o => by show (if E.own g o = some id then _ else _) = _; rw [if_pos (h5 o)]) hfl fun q v hv => ?_
      have hvl : (vs.take (len * r.size)).length = len * r.size := by rw [(h6.take len).len, ← hlt]
      by_cases hq : q < len * r.size
      · rw [List.getElem?_append_left (by omega), List.getElem?_take, if_pos hq] at hv
        have hc := h7 q v hv
        rw [Nat.zero_add, cur_cell h1] at hc
        rw [h10 q (Array.getElem?_eq_some_iff.1 hc).1, if_neg, hc]
        rintro ⟨h11, h12⟩
        have := hcell 0 (by omega)
        omega
      · rw [List.getElem?_append_right (by omega), hvl] at hv
        have hj := (List.getElem?_eq_some_iff.1 hv).1
        obtain ⟨h11, h12⟩ := hcell _ hj
        rw [h10 q (by omega), if_pos (by omega), h11, Nat.zero_add]
        exact hv
    · rename_i e1
      rw [obj_del] at hy
      split at hy
      · cases hy
      · rename_i e2; exact .inl ⟨hy, e2⟩

theorem amOp_append (hΓ : TabOk P Γ) {t tx e : TypeId} {x y : Operand} {r : Row} {old : Option Nat} {xs ys : List (List Tree)} (ho : o.op = .call { callee := .builtin .append, args := #[x, y], argTypes := #[t, tx] }) (ht : P.underlying t = some (.slice e)) (he : Γ e = some r)
    (hx : dstOf st e r.size (st.eval x) = some (old, xs)) (hy : srcOf st r.size (st.eval y) = some ys) (hk : (∃ e', P.underlying tx = some (.slice e')) ∨ P.underlying tx = some .string)
    (hk2 : (∃ s, st.eval y = lit (.string s)) ∨ (∃ e', P.underlying tx = some (.slice e'))) (hk3 : (∀ s, st.eval y ≠ lit (.string s)) ∨ P.underlying tx = some .string)
    (hb : (xs.length + ys.length) * r.bytes ≤ 140737488355328) (hm : xs.length + ys.length ≤ maxLen) (hd : dstOk C.n o = true)
    (hK : K (((st.delOpt old).new (.arr e r.size (xs ++ ys))).put o.dst (.c (.own st.next 0 (xs.length + ys.length))))) : amOp P C o Q K st := by
  refine amOp_step hd hK fun E a w hr => ?_
  obtain ⟨news, hs, hfn⟩ := src_ok (P := P) hr (hr.eval y) hy hk hk2 hk3
  have h1 := hr.eval x
  have hex : ∀ {v w'}, (Builtin.append_ #[t, tx] o.type #[a.eval x, a.eval y]).run P w = .ok v w' → (execOp a.eval o).run P w = .ok (.value v) w' := fun {v w'} hv => by
    simp [execOp, ho, resolve, invoke, builtin, hv]
  -- a nil row
  have hnil : a.eval x = .slice none 0 0 → xs = [] → ∃ E' v w', (Builtin.append_ #[t, tx] o.type #[a.eval x, a.eval y]).run P w = .ok v w' ∧ RelE E' C ((st.delOpt old).new (.arr e r.size (xs ++ ys))) a w' ∧ RC E' w' v (.own st.next 0 (xs.length + ys.length)) := by
    intro hv hxs
    subst hxs
    rw [hv]
    have hr0 := hr.delOpt old
    rcases Nat.eq_zero_or_pos ys.length with h0 | h0
    · have hys : ys = [] := List.eq_nil_of_length_eq_zero h0
      subst hys
      have hn0 : news = [] := List.eq_nil_of_length_eq_zero (by rw [hfn.len]; simp)
      subst hn0
      obtain ⟨i, hi, hsz, _⟩ := (hΓ e r he).info
      rw [← hsz] at hs
      have hrun : (Builtin.append_ #[t, tx] o.type #[.slice none 0 0, a.eval y]).run P w = .ok (.slice none 0 0) w := by
        have hc0 : (Builtin.firstCells i.size 0 (a.eval y)).run P w = .ok #[] w := hs.cells
        have hl0 : ∀ w' : World, (Builtin.lenOf (a.eval y)).run P w' = .ok 0 w' := hs.len
        rcases hs.kind with ⟨e', hk⟩ | hk <;> simp [Builtin.append_, run_underlying ht, run_underlying hk, sizeOf, typeInfo, hi, hl0, hc0]
      refine ⟨_, _, _, hrun, hr0.newNil e r.size, .inl ⟨?_, rfl, rfl, by simp⟩⟩
      show (if st.next = (st.delOpt old).next then _ else _) = _
      rw [delOpt_next, if_pos rfl]
    · have := append_grow (xs := []) (ys := ys) (sLen := 0) (sCap := 0) (base := none) (x := a.eval y) (ty := o.type) (tx := tx) hΓ hr0 ht he rfl Flat.nil (run_firstCells_none w.drew r.size 0 0 0) hs hfn (by omega) (by simpa using hb) (by simpa using hm)
      obtain ⟨E', v, w', h2, h3, h4⟩ := this
      rw [delOpt_next] at h4
      exact ⟨E', v, w', h2, h3, by simpa using h4⟩
  have key : ∃ E' v w', (Builtin.append_ #[t, tx] o.type #[a.eval x, a.eval y]).run P w = .ok v w' ∧ RelE E' C ((st.delOpt old).new (.arr e r.size (xs ++ ys))) a w' ∧ RC E' w' v (.own st.next 0 (xs.length + ys.length)) := by
    generalize hX : st.eval x = X at hx h1
    unfold dstOf at hx
    split at hx
    · cases hx
      exact hnil (ro_v (rtT h1)) rfl
    · rename_i id lo len
      split at hx
      · rename_i ty s zs hob
        split at hx
        · rename_i hc
          obtain ⟨h2, h3, h4, h5⟩ := hc
          subst h2; subst h3; subst h4
          cases hx
          have hlt : (zs.take len).length = len := by rw [List.length_take, Nat.min_eq_left h5]
          rcases rtC h1 with ⟨h6, h7, h8, h9⟩ | ⟨g, sz', cap, of, h6, h7, h8, h9⟩
          · subst h9
            exact hnil h7 (by simp)
          · have hro := hr.objs _ _ hob
            have hsz : sz' = r.size := by
              rcases hro with ⟨h9, _⟩ | ⟨g', cap', cur, h9, _⟩
              · rw [h6] at h9; cases h9
              · rw [h6] at h9; cases h9; rfl
            subst hsz
            rw [h7, Nat.sub_zero]
            rw [hlt] at hb hm
            rcases Nat.lt_or_ge cap (len + ys.length) with hg | hg
            · obtain ⟨cur, h10, h11, h12, h13, h14, vs, h15, h16⟩ := arr_flat hro h6
              have hfo := h15.take len
              have hof : 0 < cap → of = 0 := fun h => by rw [h9 h]; omega
              have hold : (Builtin.firstCells r.size len (.slice (some ⟨g, of, none⟩) len cap)).run P w.drew = .ok (vs.take (len * r.size)).toArray w.drew := by
                refine run_firstCells_some w.drew r.size len ⟨g, of, none⟩ len cap _ (by rw [hfo.len, hlt]) fun j u hu => ?_
                rw [List.getElem?_take] at hu
                split at hu
                · rename_i hj
                  have hcap : 0 < cap := by
                    rcases Nat.eq_zero_or_pos len with e | e
                    · subst e; simp at hj
                    · omega
                  have := h16 j u hu
                  rw [Nat.zero_add] at this
                  rw [Addr.add_mid, hof hcap, Nat.zero_add]
                  exact this
                · cases hu
              obtain ⟨E', v, w', h17, h18, h19⟩ := append_grow (ty := o.type) hΓ (hr.delOpt (some id)) ht he hlt hfo hold hs hfn hg hb hm
              rw [delOpt_next] at h19
              exact ⟨E', v, w', h17, h18, by rw [hlt]; exact h19⟩
            · obtain ⟨E', v, w', h17, h18, h19⟩ := append_room (of := of) (ty := o.type) hΓ hr ht he h6 hob h5 (fun h => by rw [h9 h]; omega) hs hfn hg
              exact ⟨E', v, w', h17, h18, by rw [hlt]; exact h19⟩
        · cases hx
      · cases hx
    · cases hx
  obtain ⟨E', v, w', h2, h3, h4⟩ := key
  exact ⟨E', v, w', hex h2, h3, h4⟩
end
end Go.Proofs.YthnpbfljoghbmaaA
/- The calculus, ninth part: states that say less, names of blocks; what a call answers; a function's body; a call. -/
namespace Go.Proofs.YthnpbfljoghbmaaA
set_option autoImplicit false
set_option linter.unusedVariables false

/-! ### Other names -/
def invl (j : Nat) : List (Nat × Nat) → Option Nat
  | [] => none
  | (i, k) :: l => if j = k then some i else invl j l
def renCV (ρ : Nat → Option Nat) : CV → CV
  | .t x => .t x
  | .own id lo len => match ρ id with | some k => .own k lo len | none => .junk
  | .ptr id off => match ρ id with | some k => .ptr k off | none => .junk
  | .ifp ty id off => match ρ id with | some k => .ifp ty k off | none => .junk
  | .ep id i j => match ρ id with | some k => .ep k i j | none => .junk
  | .rp xs => .rp xs
  | .irp ty xs => .irp ty xs
  | .gv g o => .gv g o
  | .mp id => match ρ id with | some k => .mp k | none => .junk
  | .sq f id => match ρ id with | some k => .sq f k | none => .junk
  | .junk => .junk
def renTV1 (ρ : Nat → Option Nat) : TV → TV
  | .c x => .c (renCV ρ x)
  | .agg xs => .agg (xs.map (renCV ρ))
  | .tup xs => .tup xs
def renTV (ρ : Nat → Option Nat) : TV → TV
  | .tup xs => .tup (xs.map (renTV1 ρ))
  | x => renTV1 ρ x
def renObj (ρ : Nat → Option Nat) : AObj → AObj
  | .cells xs => .cells (xs.map (renCV ρ))
  | .arr ty sz xs => .arr ty sz xs
  | .mp d es => .mp d es
  | .nest ty sz xs => .nest ty sz (xs.map fun x => x.map (NC.rn (renCV ρ)))
theorem all2_map {α β γ : Type} {R : α → β → Prop} {R' : α → γ → Prop} {f : β → γ} (h : ∀ a b, R a b → R' a (f b)) : ∀ {as : List α} {bs : List β}, All2 R as bs → All2 R' as (bs.map f)
  | [], [], _ => trivial
  | _ :: _, _ :: _, k => ⟨h _ _ k.1, all2_map h k.2⟩
  | [], _ :: _, k => k.elim
  | _ :: _, [], k => k.elim

section
variable {E E' : Env} {w w' : World} {ρ : Nat → Option Nat}
/-- Names turn, and the world goes on. -/
structure Ren (ρ : Nat → Option Nat) (E E' : Env) (w w' : World) : Prop where
  ro : ∀ v t, RO w (roE E) v t → RO w' (roE E') v t
  rp : ∀ g o v, E.own g o = none → w.cell? ⟨g, o, none⟩ = some v → E'.own g o = none ∧ w'.cell? ⟨g, o, none⟩ = some v
  at_ : ∀ i k B, ρ i = some k → E.at_ i = some B → E'.at_ k = some B
theorem Ren.rc (h : Ren ρ E E' w w') {v : Value} {x : CV} (hx : RC E w v x) : RC E' w' v (renCV ρ x) := by
  cases x with
  | t x => exact h.ro _ _ hx
  | own id lo len =>
    simp only [renCV]
    split
    · rename_i k hk
      exact hx.imp (fun ⟨h1, h2⟩ => ⟨h.at_ _ _ _ hk h1, h2⟩) (fun ⟨g, sz, cap, o, h1, h2⟩ => ⟨g, sz, cap, o, h.at_ _ _ _ hk h1, h2⟩)
    · trivial
  | ptr id off =>
    simp only [renCV]
    split
    · rename_i k hk
      obtain ⟨g, base, h1, h2⟩ := hx; exact ⟨g, base, h.at_ _ _ _ hk h1, h2⟩
    · trivial
  | ifp ty id off =>
    simp only [renCV]
    split
    · rename_i k hk
      obtain ⟨g, base, h1, h2⟩ := hx; exact ⟨g, base, h.at_ _ _ _ hk h1, h2⟩
    · trivial
  | ep id i j =>
    simp only [renCV]
    split
    · rename_i k hk
      obtain ⟨g, sz, cap, h1, h2⟩ := hx; exact ⟨g, sz, cap, h.at_ _ _ _ hk h1, h2⟩
    · trivial
  | rp xs =>
    obtain ⟨g, o, h1, h2⟩ := hx
    refine ⟨g, o, h1, fun j t ht => ?_⟩
    obtain ⟨h3, u, h4, h5⟩ := h2 j t ht
    exact ⟨(h.rp _ _ _ h3 h4).1, u, (h.rp _ _ _ h3 h4).2, h.ro _ _ h5⟩
  | irp ty xs =>
    obtain ⟨g, o, h1, h2⟩ := hx
    refine ⟨g, o, h1, fun j t ht => ?_⟩
    obtain ⟨h3, u, h4, h5⟩ := h2 j t ht
    exact ⟨(h.rp _ _ _ h3 h4).1, u, (h.rp _ _ _ h3 h4).2, h.ro _ _ h5⟩
  | gv g o => obtain ⟨h1, h2, h3⟩ := hx; exact ⟨(h.rp _ _ _ h1 h2).1, (h.rp _ _ _ h1 h2).2, h3⟩
  | mp id =>
    simp only [renCV]
    split
    · rename_i k hk
      obtain ⟨g, h1, h2⟩ := hx; exact ⟨g, h.at_ _ _ _ hk h1, h2⟩
    · trivial
  | sq f id =>
    simp only [renCV]
    split
    · rename_i k hk
      obtain ⟨g, gm, h1, h2, h3, h4⟩ := hx; exact ⟨g, gm, h1, (h.rp _ _ _ h2 h3).1, (h.rp _ _ _ h2 h3).2, h.at_ _ _ _ hk h4⟩
    · trivial
  | junk => trivial
theorem Ren.rt1 (h : Ren ρ E E' w w') {v : Value} {x : TV} (hx : RT1 E w v x) : RT1 E' w' v (renTV1 ρ x) := by
  cases x with
  | c x => exact h.rc hx
  | agg xs => obtain ⟨vs, h1, h2⟩ := hx; exact ⟨vs, h1, all2_map (fun a b (hab : RC E w a b) => h.rc hab) h2⟩
  | tup xs => exact hx.elim
theorem Ren.rt (h : Ren ρ E E' w w') {v : Value} {x : TV} (hx : RT E w v x) : RT E' w' v (renTV ρ x) := by
  cases x with
  | tup xs => obtain ⟨vs, h1, h2⟩ := hx; exact ⟨vs, h1, all2_map (fun a b (hab : RT1 E w a b) => h.rt1 hab) h2⟩
  | c x => exact h.rc (rtC hx)
  | agg xs => exact h.rt1 (x := .agg xs) hx
end

def St.tidy (st : St) (ρ : List (Nat × Nat)) (ts : List Nat) (N : Nat) : St :=
  ⟨ts.map fun t => (t, renTV (look · ρ) (st.get t)), ρ.filterMap fun p => (st.obj p.1).map fun o => (p.2, renObj (look · ρ) o), N⟩
def tidyOk (n0 : Nat) (ρ : List (Nat × Nat)) (N : Nat) : Bool :=
  ρ.all (fun p => decide (0 < p.2 ∧ p.2 < N) && decide (invl p.2 ρ = some p.1) && decide (look p.1 ρ = some p.2)) && (List.range n0).all (fun i => i == 0 || decide (look i ρ = some i)) && decide (0 < N)
theorem look_mem {α : Type} {i : Nat} {x : α} : ∀ {l : List (Nat × α)}, look i l = some x → (i, x) ∈ l
  | [], h => by cases h
  | (k, y) :: l, h => by
    simp only [look] at h
    split at h
    · rename_i e; subst e; cases h; exact List.mem_cons_self
    · exact List.mem_cons_of_mem _ (look_mem h)
theorem invl_mem {i j : Nat} : ∀ {l : List (Nat × Nat)}, invl j l = some i → (i, j) ∈ l
  | [], h => by cases h
  | (k, y) :: l, h => by
    simp only [invl] at h
    split at h
    · rename_i e; subst e; cases h; exact List.mem_cons_self
    · exact List.mem_cons_of_mem _ (invl_mem h)

section
variable {P : Program} {Γ : Nat → Option Row} {C : Ctx} {Q : Exit → St → Prop} {st : St} {o : Oper} {K : St → Prop} {E : Env} {a : Act} {w : World}
theorem look_tmap {f : Nat → TV} {t : Nat} {x : TV} : ∀ {ts : List Nat}, look t (ts.map fun t => (t, f t)) = some x → x = f t
  | [], h => by cases h
  | s :: ts, h => by
    simp only [List.map_cons, look] at h
    split at h
    · rename_i e; subst e; cases h; rfl
    · exact look_tmap h
theorem look_fmap {f : Nat × Nat → Option AObj} {j : Nat} {x : AObj} : ∀ {l : List (Nat × Nat)}, look j (l.filterMap fun p => (f p).map fun o => (p.2, o)) = some x → ∃ p, p ∈ l ∧ p.2 = j ∧ f p = some x
  | [], h => by cases h
  | p :: l, h => by
    rw [List.filterMap_cons] at h
    cases hp : f p with
    | none =>
      simp only [hp, Option.map_none] at h
      obtain ⟨q, h1, h2⟩ := look_fmap h
      exact ⟨q, List.mem_cons_of_mem _ h1, h2⟩
    | some o =>
      simp only [hp, Option.map_some, look] at h
      split at h
      · rename_i e; cases h; exact ⟨p, List.mem_cons_self, e.symm, hp⟩
      · obtain ⟨q, h1, h2⟩ := look_fmap h
        exact ⟨q, List.mem_cons_of_mem _ h1, h2⟩

theorem RelE.tidy (h : RelE E C st a w) {ρ : List (Nat × Nat)} {ts : List Nat} {N : Nat} (hok : tidyOk C.n0 ρ N = true) : ∃ E', RelE E' C (st.tidy ρ ts N) a w ∧ Ren (look · ρ) E E' w w := by
  simp only [tidyOk, Bool.and_eq_true, List.all_eq_true, decide_eq_true_eq, Bool.or_eq_true, beq_iff_eq, List.mem_range] at hok
  obtain ⟨⟨h1, h2⟩, h3⟩ := hok
  let E' : Env := ⟨fun j => (invl j ρ).bind E.at_, fun b o => match E.own b o with | none => none | some i => if i = 0 then some 0 else look i ρ⟩
  have hown : ∀ b o i k, E.own b o = some i → i ≠ 0 → look i ρ = some k → E'.own b o = some k := fun b o i k h4 h5 h6 => by simp only [E', h4, h5, if_false, h6]
  have hren : Ren (look · ρ) E E' w w := ⟨fun v t hv => hv.mono fun b o v' hb hc => ⟨by have hb' : E.own b o = none := hb; simp only [E', roE, hb'], hc⟩, fun g o v hg hc => ⟨by simp only [E', hg], hc⟩, fun i k B hi hB => by
    have := (h1 _ (look_mem hi)).1.2
    simp only [E', this, Option.bind_some]
    exact hB⟩
  have hat0 : E'.at_ 0 = none := by
    simp only [E']
    cases h5 : invl 0 ρ with
    | none => rfl
    | some i => have := (h1 _ (invl_mem h5)).1.1.1; simp at this
  refine ⟨E', ?_, hren⟩
  refine ⟨fun t x hx => ?_, h.size, h.defers, fun j x hx => ?_, fun j hj => ?_, hat0, h3, h.dom, ⟨h.fc.pre, h.fc.os, h.fc.tape, h.fc.output, h.fc.size, fun i B hB => ?_, h.fc.blk, fun b o hb h0 => ?_, fun b o hb => ?_, fun b o he => ?_⟩⟩
  · have := look_tmap hx
    subst this
    refine hren.rt ?_
    have := h.eval (.tmp t)
    exact this
  · obtain ⟨p, hp, h5, h6⟩ := look_fmap (f := fun p => (st.obj p.1).map (renObj (look · ρ))) (by simpa [St.tidy, St.obj, Option.map_map, Function.comp_def] using hx)
    subst h5
    obtain ⟨⟨⟨hp1, hp2⟩, hp3⟩, hp4⟩ := h1 p hp
    cases hob : st.obj p.1 with
    | none => rw [hob] at h6; cases h6
    | some ob =>
      rw [hob] at h6
      cases h6
      have hne := obj_pos h hob
      have hr := h.objs _ _ hob
      cases ob with
      | cells xs =>
        obtain ⟨g, base, cur, ty, h7, h8, h9, h10⟩ := hr
        refine ⟨g, base, cur, ty, hren.at_ _ _ _ hp4 h7, h8, by simpa using h9, fun k c hc => ?_⟩
        rw [List.getElem?_map] at hc
        cases hx0 : xs[k]? with
        | none => rw [hx0] at hc; cases hc
        | some c0 =>
          rw [hx0] at hc
          cases hc
          obtain ⟨h11, v, h12, h13, h14⟩ := h10 k c0 hx0
          exact ⟨hown _ _ _ _ h11 hne hp4, v, h12, h13, hren.rc h14⟩
      | arr ty sz xs =>
        rcases hr with ⟨h7, h8⟩ | ⟨g, cap, cur, h7, h8, h9, h10, h11, h12, h13, h14⟩
        · exact .inl ⟨hren.at_ _ _ _ hp4 h7, h8⟩
        · refine .inr ⟨g, cap, cur, hren.at_ _ _ _ hp4 h7, h8, h9, h10, h11, fun o => hown _ _ _ _ (h12 o) hne hp4, h13, fun i x hx j t ht => ?_⟩
          obtain ⟨v, h15, h16⟩ := h14 i x hx j t ht
          exact ⟨v, h15, hren.ro _ _ h16⟩
      | mp d es =>
        obtain ⟨g, arr, clock, h7, h8, h9, h10, h11⟩ := hr
        exact ⟨g, arr, clock, hren.at_ _ _ _ hp4 h7, h8, h9, fun o => hown _ _ _ _ (h10 o) hne hp4, h11⟩
      | nest ty sz xs => exact RNest.mono (fun B hB => hren.at_ _ _ _ hp4 hB) (fun b o ho => hown _ _ _ _ ho hne hp4) blk_same (fun v t hv => hren.ro _ _ hv) (fun x hx c hc v y e hy => hren.rc hy) hr
  · simp only [E']
    cases h5 : invl j ρ with
    | none => rfl
    | some i =>
      have := (h1 _ (invl_mem h5)).1.1.2
      have hj' : N ≤ j := hj
      simp only at this
      omega
  · have hi : i < C.n0 := by
      rcases Nat.lt_or_ge i C.n0 with h4 | h4
      · exact h4
      · rw [h.dom i h4] at hB; cases hB
    have hB' := h.fc.at_ i B hB
    rcases h2 i hi with h5 | h5
    · subst h5; rw [h.zero] at hB'; cases hB'
    · exact hren.at_ _ _ _ h5 hB'
  · have h4 := h.fc.keep b o hb h0
    rcases h0 with h0 | h0
    · rw [h0] at h4 ⊢; simp only [E', h4]
    · rw [h0] at h4 ⊢; simp only [E', h4, if_true]
  · have := h.fc.fresh b o hb
    simp only [E', this]
  · have h4 := h.fc.pos b o
    simp only [E'] at he
    split at he
    · cases he
    · rename_i i hi
      split at he
      · rename_i e; subst e; exact h4 hi
      · have := (h1 _ (look_mem he)).1.1.1
        simp at this
theorem Rel.tidy (h : Rel C st a w) {ρ : List (Nat × Nat)} {ts : List Nat} {N : Nat} (hok : tidyOk C.n0 ρ N = true) : Rel C (st.tidy ρ ts N) a w := by
  obtain ⟨E, h⟩ := h
  obtain ⟨E', h', _⟩ := h.tidy hok
  exact ⟨E', h'⟩
theorem am_tidy {c : Code} (ρ : List (Nat × Nat)) (ts : List Nat) (N : Nat) (hok : tidyOk C.n0 ρ N = true) (h : am P C c Q (st.tidy ρ ts N)) : am P C c Q st := am_weak (fun a w hr => hr.tidy hok) h
theorem amR_tidy {c : Code} {n : Nat} (ρ : List (Nat × Nat)) (ts : List Nat) (N : Nat) (hok : tidyOk C.n0 ρ N = true) (h : amR P C c Q n (st.tidy ρ ts N)) : amR P C c Q n st := by
  cases n with
  | zero => exact h.elim
  | succ n => exact am_tidy ρ ts N hok h

/-- A nil slice in a slot is a row of the call's own with nothing in it. -/
theorem Rel.ownNil (h : Rel C st a w) {t : Nat} (ht : look t st.tmps = some (lit (.slice none 0 0))) (ty sz : Nat) : Rel C ((st.new (.arr ty sz [])).put (some t) (.c (.own st.next 0 0))) a w := by
  obtain ⟨E, h⟩ := h
  have h1 := h.newNil ty sz
  refine ⟨_, ⟨fun s x hx => ?_, h1.size, h1.defers, h1.objs, h1.next, h1.zero, h1.npos, h1.dom, h1.fc⟩⟩
  simp only [St.put, look_push] at hx
  split at hx
  · rename_i e; subst e; cases hx
    have := ro_v (rtT (h.tmps _ _ ht))
    exact .inl ⟨if_pos rfl, this, rfl, rfl⟩
  · exact h1.tmps s x hx
theorem am_ownNil {c : Code} (t ty sz : Nat) (ht : look t st.tmps = some (lit (.slice none 0 0))) (h : am P C c Q ((st.new (.arr ty sz [])).put (some t) (.c (.own st.next 0 0)))) : am P C c Q st := am_weak (fun a w hr => hr.ownNil ht ty sz) h

/-! ### What a call answers -/
/-- Called with what args tell, the blocks objs0 handed over (their names below n0): the answer res; objs1: what these blocks hold then, and the new ones. -/
def TC (P : Program) (f : FuncId) (args : List TV) (objs0 : List (Nat × AObj)) (n0 : Nat) (res : TV) (objs1 : List (Nat × AObj)) (n1 : Nat) : Prop :=
  (∃ fn, P.funcs[f]? = some fn ∧ (fn.name == "runtime.NumGoroutine") = false ∧ fn.body.isSome = true) ∧ ∀ (E : Env) (w : World) (vs : List Value), All2 (RT E w) vs args → (∀ id x, look id objs0 = some x → RObj E w id x) → (∀ id, n0 ≤ id → E.at_ id = none) → E.at_ 0 = none → (∀ b o, w.heap.size ≤ b → E.own b o = none) →
    (∀ b o id, E.own b o = some id → id = 0 ∨ (look id objs0).isSome = true) → Pre w E →
    Calls P f vs.toArray w fun e w' => ∃ v E', e = .returned v ∧ RT E' w' v res ∧ FC w E E' w' ∧ (∀ id x, look id objs1 = some x → RObj E' w' id x) ∧ (∀ id, n1 ≤ id → E'.at_ id = none) ∧ E'.at_ 0 = none

def argSlots : Nat → List TV → List (Nat × TV)
  | _, [] => []
  | k, x :: xs => (k, x) :: argSlots (k + 1) xs
theorem argSlots_look {t : Nat} {x : TV} : ∀ {k : Nat} {xs : List TV}, look t (argSlots k xs) = some x → k ≤ t ∧ xs[t - k]? = some x
  | _, [], h => by cases h
  | k, y :: ys, h => by
    simp only [argSlots, look] at h
    split at h
    · rename_i e; subst e; cases h; simp
    · rename_i e
      obtain ⟨h1, h2⟩ := argSlots_look h
      refine ⟨by omega, ?_⟩
      rw [show t - k = (t - (k + 1)) + 1 by omega]
      simpa using h2
def oneTV : TV → TV
  | .tup _ => .c .junk
  | x => x
def retTV (rs : List Tmp) (st : St) : TV :=
  match rs with
  | [t] => st.get t
  | ts => .tup (ts.map fun t => oneTV (st.get t))
def retV (rs : List Tmp) (tmps : Array Value) : Value :=
  match rs with
  | [t] => tmps.getD t undef
  | ts => .tuple (ts.map fun t => tmps.getD t undef).toArray
/-- The body is through: the answer. -/
def RetQ (C : Ctx) (rs : List Tmp) (res : TV) (objs1 : List (Nat × AObj)) (n1 : Nat) : Exit → St → Prop := fun e st =>
  (e = .ret ∨ e = .normal) ∧ ∃ st', (∀ a w, Rel C st a w → Rel C st' a w) ∧ retTV rs st' = res ∧ (∀ id x, look id objs1 = some x → st'.obj id = some x) ∧ st'.next = n1
theorem ret_tidy {rs : List Tmp} {res : TV} {objs1 : List (Nat × AObj)} {n1 : Nat} (ρ : List (Nat × Nat)) (hok : tidyOk C.n0 ρ n1 = true) (h1 : retTV rs (st.tidy ρ rs n1) = res) (h2 : (st.tidy ρ rs n1).objs = objs1) : RetQ C rs res objs1 n1 .ret st :=
  ⟨.inl rfl, _, fun a w hr => hr.tidy hok, h1, fun id x hx => by rw [← h2] at hx; exact hx, rfl⟩
/-- The commonest end: no block of its own is handed back. -/
theorem ret_plain {rs : List Tmp} {res : TV} (hn : C.n0 = 1) (h1 : retTV rs (st.tidy [] rs 1) = res) : RetQ C rs res [] 1 .ret st :=
  ret_tidy [] (by simp [tidyOk, hn]) h1 rfl

theorem results_tmps (fn : Func) (rs : List Tmp) (h : fn.results = (rs.map ResultVar.tmp).toArray) (tmps : Array Value) (w : World) :
    (results fn tmps).run P w = .ok (retV rs tmps) w := by
  have hm : ∀ (F : ResultVar → Sem Value), (∀ t, F (.tmp t) = pure (tmps.getD t undef)) → ∀ l : List Tmp, (l.map ResultVar.tmp).mapM F = pure (l.map fun t => tmps.getD t undef) := by
    intro F hF l
    induction l with
    | nil => rfl
    | cons t l ih => rw [List.map_cons, List.mapM_cons, ih, hF]; rfl
  unfold results
  rw [h, List.mapM_toArray, hm _ fun _ => rfl]
  match rs with
  | [] => rfl
  | [t] => rfl
  | t :: u :: l => simp [retV]

theorem tc_intro {f : FuncId} {fn : Func} {c : Code} {args : List TV} {objs0 objs1 : List (Nat × AObj)} {n0 n1 : Nat} {res : TV} (hf : P.funcs[f]? = some fn) (hb : fn.body = some c) (N : Nat) (hN : fn.ntmps = N) (hl : args.length ≤ N) (h0 : 0 < n0)
    (rs : List Tmp) (hrs : fn.results = (rs.map ResultVar.tmp).toArray) (hdom : ∀ id x, look id objs0 = some x → id < n0)
    (h : ∀ w0 E0, am P ⟨w0, E0, N, n0⟩ c (RetQ ⟨w0, E0, N, n0⟩ rs res objs1 n1) ⟨argSlots 0 args, objs0, n0⟩) (hname : (fn.name == "runtime.NumGoroutine") = false := by kernel_rfl) : TC P f args objs0 n0 res objs1 n1 := by
  refine ⟨⟨fn, hf, hname, by rw [hb]; rfl⟩, ?_⟩
  intro E w vs hvs hobjs hnext hzero hfresh hown hpre
  refine calls_of_wp hf hb ?_
  have hlen := hvs.length
  have hrel : Rel ⟨w, E, N, n0⟩ ⟨argSlots 0 args, objs0, n0⟩ { tmps := vs.toArray ++ Array.replicate (fn.ntmps - vs.toArray.size) undef, defers := [] } w := by
    refine ⟨E, fun t x hx => ?_, ?_, rfl, hobjs, hnext, hzero, h0, hnext, ⟨hpre, rfl, rfl, rfl, Nat.le_refl _, fun _ _ h => h, fun b hb => ⟨fun _ => rfl, fun cur ty fr hx => ⟨cur, hx, rfl, fun _ _ => rfl⟩⟩, fun _ _ _ _ => rfl, hfresh, fun b o he => he⟩⟩
    · obtain ⟨_, h2⟩ := argSlots_look hx
      rw [Nat.sub_zero] at h2
      obtain ⟨v, h3, h4⟩ := hvs.get h2
      have ht : t < vs.length := (List.getElem?_eq_some_iff.1 h3).1
      have : (vs.toArray ++ Array.replicate (fn.ntmps - vs.toArray.size) undef).getD t undef = v := by
        rw [Array.getD_eq_getD_getElem?, Array.getElem?_append_left (by simpa using ht)]
        simp [h3]
      show RT E w ((vs.toArray ++ Array.replicate (fn.ntmps - vs.toArray.size) undef).getD t undef) x
      rw [this]
      exact h4
    · simp [hN]; omega
  refine wp_mono (h w E _ w hrel) ?_
  rintro e a w' ⟨st, ⟨he, st', hw, hres, hobj, hn⟩, hr⟩
  obtain ⟨E', hr'⟩ := hw a w' hr
  have hend : a.defers = [] ∧ ∃ v, (results fn a.tmps).run P w' = .ok v w' ∧ ∃ v' E', Ending.returned v = .returned v' ∧ RT E' w' v' res ∧ FC w E E' w' ∧ (∀ id x, look id objs1 = some x → RObj E' w' id x) ∧ (∀ id, n1 ≤ id → E'.at_ id = none) ∧ E'.at_ 0 = none := by
    refine ⟨hr'.defers, _, results_tmps fn rs hrs a.tmps w', _, E', rfl, ?_, hr'.fc, fun id x hx => hr'.objs _ _ (hobj id x hx), fun id hid => hr'.next id (by rw [hn]; exact hid), hr'.zero⟩
    rw [← hres]
    have hg : ∀ t, RT E' w' (a.tmps.getD t undef) (st'.get t) := fun t => hr'.eval (.tmp t)
    have hg1 : ∀ l : List Tmp, All2 (RT1 E' w') (l.map fun t => a.tmps.getD t undef) (l.map fun t => oneTV (st'.get t)) := by
      intro l
      induction l with
      | nil => trivial
      | cons t l ih =>
        refine ⟨?_, ih⟩
        have := hg t
        show RT1 E' w' (a.tmps.getD t undef) (oneTV (st'.get t))
        generalize st'.get t = x at this ⊢
        cases x with
        | c x => exact this
        | agg x => exact this
        | tup x => exact trivial
    match rs with
    | [t] => exact hg t
    | [] => exact ⟨[], rfl, trivial⟩
    | t :: u :: l => exact ⟨_, rfl, hg1 (t :: u :: l)⟩
  rcases he with rfl | rfl
  · exact hend
  · exact hend
end
end Go.Proofs.YthnpbfljoghbmaaA
/- The calculus, tenth part: a call by what it answers. -/
namespace Go.Proofs.YthnpbfljoghbmaaA
set_option autoImplicit false
set_option linter.unusedVariables false

/-- The place of a name in a list. -/
def posOf (j : Nat) : List Nat → Option Nat
  | [] => none
  | i :: l => if j = i then some 0 else (posOf j l).map (· + 1)
theorem posOf_get {j k : Nat} : ∀ {l : List Nat}, posOf j l = some k → l[k]? = some j
  | [], h => by cases h
  | i :: l, h => by
    simp only [posOf] at h
    split at h
    · rename_i e; subst e; cases h; rfl
    · cases hp : posOf j l with
      | none => rw [hp] at h; cases h
      | some q => rw [hp] at h; cases h; simpa using posOf_get hp
theorem posOf_mem {j : Nat} : ∀ {l : List Nat}, posOf j l = none → j ∉ l
  | [], _ => by simp
  | i :: l, h => by
    simp only [posOf] at h
    split at h
    · cases h
    · rename_i e
      cases hp : posOf j l with
      | none => simp only [List.mem_cons, not_or]; exact ⟨e, posOf_mem hp⟩
      | some q => rw [hp] at h; cases h
/-- A caller's name at the callee. -/
def fwd (ρ : List Nat) (j : Nat) : Option Nat := (posOf j ρ).map (· + 1)
/-- A callee's name at the caller. -/
def bwd (ρ : List Nat) (n0 nx k : Nat) : Nat := if k = 0 then 0 else if k < n0 then (ρ[k - 1]?).getD 0 else k - n0 + nx

def allSome {α : Type} : List (Option α) → Option (List α)
  | [] => some []
  | none :: _ => none
  | some x :: l => (allSome l).map (x :: ·)
/-- Elements that hold rows, told as what is read. -/
def ncT : NC → Option Tree
  | .t t => some t
  | .row _ sz rows => some (.sl sz rows)
  | .c _ => none
def ncTs (xs : List (List NC)) : Option (List (List Tree)) := allSome (xs.map fun x => allSome (x.map ncT))
/-- What a caller's cell is told as to the callee; m: rows of the caller's own that are not handed over may be read (then nothing that is read may come back). -/
def convCV (m : Bool) (st : St) (ρ : List Nat) : CV → Option CV
  | .t x => some (.t x)
  | .own id lo len => match fwd ρ id with
    | some k => some (.own k lo len)
    | none => if m = true then (match st.obj id with
      | some (.arr _ sz xs) => if lo + len ≤ xs.length then some (.t (.sl sz ((xs.drop lo).take len))) else none
      | some (.nest _ sz xs) => if lo + len ≤ xs.length then (ncTs ((xs.drop lo).take len)).map fun ys => .t (.sl sz ys) else none
      | _ => none) else none
  | .ptr id off => (fwd ρ id).map fun k => .ptr k off
  | .ifp ty id off => (fwd ρ id).map fun k => .ifp ty k off
  | .rp xs => some (.rp xs)
  | .irp ty xs => some (.irp ty xs)
  | .gv g o => some (.gv g o)
  | .mp id => (fwd ρ id).map .mp
  | .sq f id => (fwd ρ id).map fun k => .sq f k
  | .ep _ _ _ => none
  | .junk => some .junk
def convTV (m : Bool) (st : St) (ρ : List Nat) : TV → Option TV
  | .c x => (convCV m st ρ x).map .c
  | .agg xs => (allSome (xs.map (convCV m st ρ))).map .agg
  | .tup _ => none
def convNC (m : Bool) (st : St) (ρ : List Nat) : NC → Option NC
  | .t t => some (.t t)
  | .c _ => none
  | .row ty sz rows => some (.row ty sz rows)
def convObj (m : Bool) (st : St) (ρ : List Nat) : AObj → Option AObj
  | .cells xs => (allSome (xs.map (convCV m st ρ))).map .cells
  | .arr ty sz xs => some (.arr ty sz xs)
  | .mp d es => some (.mp d es)
  | .nest ty sz xs => (allSome (xs.map fun x => allSome (x.map (convNC m st ρ)))).map (.nest ty sz)
/-- Nothing that is read. -/
def flatCV : CV → Prop
  | .t (.v _) | .own _ _ _ | .ptr _ _ | .ifp _ _ _ | .ep _ _ _ | .mp _ | .junk => True
  | _ => False
def flatTV : TV → Prop
  | .c x => flatCV x
  | .agg xs => ∀ x, x ∈ xs → flatCV x
  | .tup xs => ∀ y, y ∈ xs → match y with | .c x => flatCV x | .agg xs => ∀ x, x ∈ xs → flatCV x | .tup _ => False
def flatNC : NC → Prop
  | .t (.v _) => True
  | .row _ _ r => ∀ y, y ∈ r → ∀ t, t ∈ y → ∃ v, t = .v v
  | _ => False
def flatObj : AObj → Prop
  | .cells xs => ∀ x, x ∈ xs → flatCV x
  | .arr _ _ xs => ∀ x, x ∈ xs → ∀ t, t ∈ x → ∃ v, t = .v v
  | .mp _ _ => True
  | .nest _ _ xs => ∀ x, x ∈ xs → ∀ c, c ∈ x → flatNC c

section
variable {P : Program} {Γ : Nat → Option Row} {C : Ctx} {Q : Exit → St → Prop} {st : St} {o : Oper} {K : St → Prop} {E : Env} {a : Act} {w : World}

/-- The callee's view. -/
def Env.call (E : Env) (m : Bool) (ρ : List Nat) : Env :=
  ⟨fun k => if k = 0 then none else (ρ[k - 1]?).bind E.at_, fun b o => match E.own b o with | none => none | some j => match fwd ρ j with | some k => some k | none => if m = true then none else some 0⟩

variable {m : Bool} {ρ : List Nat}
theorem call_none {b o : Nat} (h : E.own b o = none) : (E.call m ρ).own b o = none := by simp only [Env.call, h]
theorem fwd_get {j k : Nat} (h : fwd ρ j = some k) : 0 < k ∧ ρ[k - 1]? = some j := by
  simp only [fwd] at h
  cases hp : posOf j ρ with
  | none => rw [hp] at h; cases h
  | some q => rw [hp] at h; cases h; exact ⟨Nat.succ_pos _, by simpa using posOf_get hp⟩
theorem call_at {j k : Nat} (h : fwd ρ j = some k) : (E.call m ρ).at_ k = E.at_ j := by
  obtain ⟨h1, h2⟩ := fwd_get h
  simp only [Env.call]
  rw [if_neg (by omega), h2]
  rfl
theorem call_own {b o j k : Nat} (h : E.own b o = some j) (hf : fwd ρ j = some k) : (E.call m ρ).own b o = some k := by simp only [Env.call, h, hf]
theorem call_fixd {b o j : Nat} (h : E.own b o = some j) (hf : fwd ρ j = none) : fixd ((E.call m ρ).own b o) := by
  simp only [Env.call, h, hf]
  cases m
  · exact .inr rfl
  · exact .inl rfl
theorem call_ro {v : Value} {t : Tree} (h : RO w (roE E) v t) : RO w (roE (E.call m ρ)) v t := h.mono fun b o v hb hc => ⟨call_none hb, hc⟩

theorem allSome_get {α β : Type} {f : α → Option β} : ∀ {l : List α} {l' : List β}, allSome (l.map f) = some l' → l.length = l'.length ∧ ∀ (j : Nat) (y : β), l'[j]? = some y → ∃ x, l[j]? = some x ∧ f x = some y
  | [], l', h => by cases h; exact ⟨rfl, fun j y hy => by simp at hy⟩
  | x :: l, l', h => by
    simp only [List.map_cons] at h
    cases hx : f x with
    | none => rw [hx] at h; cases h
    | some y =>
      rw [hx] at h
      simp only [allSome] at h
      cases hr : allSome (l.map f) with
      | none => rw [hr] at h; cases h
      | some r =>
        rw [hr] at h; cases h
        obtain ⟨h1, h2⟩ := allSome_get hr
        refine ⟨by simp [h1], fun j z hz => ?_⟩
        cases j with
        | zero => simp at hz; subst hz; exact ⟨x, rfl, hx⟩
        | succ j => simpa using h2 j z (by simpa using hz)

theorem ncTs_get {xs : List (List NC)} {ys : List (List Tree)} (h : ncTs xs = some ys) : ys.length = xs.length ∧ ∀ (i : Nat) (y : List Tree), ys[i]? = some y → ∃ x : List NC, xs[i]? = some x ∧ y.length = x.length ∧ ∀ (j : Nat) (t : Tree), y[j]? = some t → ∃ c : NC, x[j]? = some c ∧ ncT c = some t := by
  obtain ⟨h1, h2⟩ := allSome_get h
  refine ⟨h1.symm, fun i y hy => ?_⟩
  obtain ⟨x, h3, h4⟩ := h2 i y hy
  obtain ⟨h5, h6⟩ := allSome_get h4
  exact ⟨x, h3, h5.symm, h6⟩
theorem ncT_ro {id g : Nat} {v : Value} {c : NC} {t : Tree} (hk : fwd ρ id = none) (hm : m = true) (h : RNC E w id g v c) (ht : ncT c = some t) : RO w (roE (E.call m ρ)) v t := by
  cases c with
  | t t' => cases ht; exact call_ro h
  | c x => cases ht
  | row a b rows =>
    cases ht
    rcases h with ⟨rfl, rfl⟩ | ⟨g', cap, cur, o', rfl, q0, q2, q3, q4, q5, q6, q7, q8, q9⟩
    · exact RO.sl (g := 0) (off := 0) (f := fun _ _ => undef) none 0 b [] (Nat.zero_le _) (Nat.zero_le _) (fun x hx => by cases hx) (fun h => absurd rfl h) (fun i j hi => by simp at hi) (fun i x hx => by simp at hx)
    · have hown : ∀ o, (E.call m ρ).own g' o = none := fun o => by simp only [Env.call, q7 o, hk, hm, if_true]
      refine RO.sl (g := g') (off := 0) (f := fun i j => (cur[i * b + j]?).getD undef) _ _ _ _ q5 (by omega) q8 (fun hne => by rw [q0 (by have := List.length_pos_iff.2 hne; omega)]) (fun i j hi hj => ⟨hown _, ?_⟩) (fun i x hx j t ht => ?_)
      · have h1 := q8 rows[i] (List.getElem_mem hi)
        obtain ⟨u, h2, _⟩ := q9 i rows[i] (List.getElem?_eq_getElem hi) j _ (List.getElem?_eq_getElem (by omega))
        rw [cur_cell q3, Nat.zero_add, h2]
        rfl
      · obtain ⟨u, h1, h2⟩ := q9 i x hx j t ht
        rw [h1]
        exact call_ro h2
theorem conv_rc (hr : RelE E C st a w) {v : Value} {x y : CV} (h : RC E w v x) (hc : convCV m st ρ x = some y) : RC (E.call m ρ) w v y := by
  cases x with
  | t x => cases hc; exact call_ro h
  | own id lo len =>
    simp only [convCV] at hc
    split at hc
    · rename_i k hk
      cases hc
      exact h.imp (fun ⟨h1, h2⟩ => ⟨by rw [call_at hk]; exact h1, h2⟩) (fun ⟨g, sz, cap, o, h1, h2⟩ => ⟨g, sz, cap, o, by rw [call_at hk]; exact h1, h2⟩)
    · rename_i hk
      split at hc
      · rename_i hm
        split at hc
        · rename_i ty sz xs hob
          split at hc
          · rename_i hle
            cases hc
            have hlen : ((xs.drop lo).take len).length = len := by rw [List.length_take, List.length_drop]; omega
            have hro := hr.objs _ _ hob
            rcases h with ⟨h2, h3, h4, h5⟩ | ⟨g, sz', cap, of, h2, h3, h4, h5⟩
            · subst h5; subst h3
              simp only [List.take_zero]
              exact RO.sl (g := 0) (off := 0) (f := fun _ _ => undef) none 0 sz [] (Nat.zero_le _) (Nat.zero_le _) (fun x hx => by cases hx) (fun h => absurd rfl h) (fun i j hi => by simp at hi) (fun i x hx => by simp at hx)
            · have hsz : sz' = sz := by
                rcases hro with ⟨h9, _⟩ | ⟨g', cap', cur, h9, _⟩
                · rw [h2] at h9; cases h9
                · rw [h2] at h9; cases h9; rfl
              subst hsz
              obtain ⟨cur, h9, h10, h11, h12, h13, vs, h14, h15⟩ := arr_flat hro h2
              have hfl := (h14.drop lo).take len
              subst h3
              generalize hys : (xs.drop lo).take len = ys at hfl hlen
              generalize hus : (vs.drop (lo * sz')).take (len * sz') = us at hfl
              have hread : ∀ i j, i < ys.length → j < sz' → w.cell? ⟨g, lo * sz' + i * sz' + j, none⟩ = us[i * sz' + j]? ∧ us[i * sz' + j]?.isSome = true := fun i j hi hj => by
                have hlt : i * sz' + j < us.length := by rw [hfl.len]; exact idx_lt hi hj
                have hu : us[i * sz' + j]? = vs[lo * sz' + (i * sz' + j)]? := by
                  rw [← hus, List.getElem?_take, if_pos (by rw [← hlen]; exact idx_lt hi hj), List.getElem?_drop]
                have h16 := h15 _ us[i * sz' + j] (by rw [← hu]; exact List.getElem?_eq_getElem hlt)
                rw [List.getElem?_eq_getElem hlt]
                rw [Nat.zero_add, ← Nat.add_assoc] at h16
                exact ⟨h16, rfl⟩
              have hlen' : len = ys.length := hlen.symm
              subst hlen'
              have hown : ∀ o, (E.call m ρ).own g o = none := fun o => by simp only [Env.call, h13 o, hk, hm, if_true]
              refine RO.sl (g := g) (off := lo * sz') (f := fun i j => (us[i * sz' + j]?).getD undef) _ _ _ _ (by omega) (Nat.le_trans (by omega) h12) hfl.row (fun hne => ?_) (fun i j hi hj => ⟨hown _, ?_⟩) (fun i x hx j t ht => ?_)
              · have : 0 < ys.length := by
                  cases ys with
                  | nil => exact absurd rfl hne
                  | cons _ _ => simp
                rw [h5 (by omega)]
              · obtain ⟨h16, h17⟩ := hread i j hi hj
                obtain ⟨u, hu⟩ := Option.isSome_iff_exists.1 h17
                rw [h16, hu]
                rfl
              · obtain ⟨u, h16, h17⟩ := hfl.ro i x hx j t ht
                rw [h16]
                exact call_ro h17
          · cases hc
        · rename_i ty sz xs hob
          split at hc
          · rename_i hle
            cases hys : ncTs ((xs.drop lo).take len) with
            | none => rw [hys] at hc; cases hc
            | some ys =>
              rw [hys] at hc
              cases hc
              obtain ⟨e1, e2⟩ := ncTs_get hys
              have hlen : ys.length = len := by rw [e1, List.length_take, List.length_drop]; omega
              rcases h with ⟨h2, h3, h4, h5⟩ | ⟨g, sz', cap, of, h2, h3, h4, h5⟩
              · have : ys = [] := List.eq_nil_of_length_eq_zero (by omega)
                subst this
                subst h3
                exact RO.sl (g := 0) (off := 0) (f := fun _ _ => undef) none 0 sz [] (Nat.zero_le _) (Nat.zero_le _) (fun x hx => by cases hx) (fun h => absurd rfl h) (fun i j hi => by simp at hi) (fun i x hx => by simp at hx)
              rcases hr.objs _ _ hob with ⟨h9, _⟩ | ⟨g', cap', cur, h9, h10, h11, h12, h13, h14, h15, h16, _⟩
              · rw [h2] at h9; cases h9
              rw [h2] at h9
              cases h9
              subst h3
              subst hlen
              have hown : ∀ o, (E.call m ρ).own g o = none := fun o => by simp only [Env.call, h14 o, hk, hm, if_true]
              have hx0 : ∀ i x, ((xs.drop lo).take ys.length)[i]? = some x → xs[lo + i]? = some x := fun i x hx => by
                rw [List.getElem?_take] at hx
                split at hx
                · rwa [List.getElem?_drop] at hx
                · cases hx
              refine RO.sl (g := g) (off := lo * sz) (f := fun i j => (cur[(lo + i) * sz + j]?).getD undef) _ _ _ _ (by omega) (by omega) (fun y hy => ?_) (fun hne => ?_) (fun i j hi hj => ⟨hown _, ?_⟩) (fun i y hy j t ht => ?_)
              · obtain ⟨i, hi⟩ := List.getElem?_of_mem hy
                obtain ⟨x, h17, h18, _⟩ := e2 i y hi
                rw [h18]
                exact h15 x (List.mem_of_getElem? (hx0 i x h17))
              · have : 0 < ys.length := by
                  cases ys with
                  | nil => exact absurd rfl hne
                  | cons _ _ => simp
                rw [h5 (by omega)]
              · obtain ⟨x, h17, h18, _⟩ := e2 i ys[i] (List.getElem?_eq_getElem hi)
                have h19 := hx0 i x h17
                have h20 := h15 x (List.mem_of_getElem? h19)
                obtain ⟨v, h21, _⟩ := h16 (lo + i) x h19 j _ (List.getElem?_eq_getElem (by omega))
                rw [cur_cell h10, show lo * sz + i * sz + j = (lo + i) * sz + j by rw [Nat.add_mul], h21]
                rfl
              · obtain ⟨x, h17, h18, h19⟩ := e2 i y hy
                obtain ⟨c, h20, h21⟩ := h19 j t ht
                obtain ⟨v, h22, h23⟩ := h16 (lo + i) x (hx0 i x h17) j c h20
                rw [h22]
                exact ncT_ro hk hm h23 h21
          · cases hc
        · cases hc
      · cases hc
  | ptr id off =>
    simp only [convCV] at hc
    cases hk : fwd ρ id with
    | none => rw [hk] at hc; cases hc
    | some k =>
      rw [hk] at hc; cases hc
      obtain ⟨g, base, h1, h2⟩ := h
      exact ⟨g, base, by rw [call_at hk]; exact h1, h2⟩
  | ifp ty id off =>
    simp only [convCV] at hc
    cases hk : fwd ρ id with
    | none => rw [hk] at hc; cases hc
    | some k =>
      rw [hk] at hc; cases hc
      obtain ⟨g, base, h1, h2⟩ := h
      exact ⟨g, base, by rw [call_at hk]; exact h1, h2⟩
  | ep id i j => cases hc
  | rp xs =>
    cases hc
    obtain ⟨g, o, h1, h2⟩ := h
    exact ⟨g, o, h1, fun j t ht => let ⟨h3, u, h4, h5⟩ := h2 j t ht; ⟨call_none h3, u, h4, call_ro h5⟩⟩
  | irp ty xs =>
    cases hc
    obtain ⟨g, o, h1, h2⟩ := h
    exact ⟨g, o, h1, fun j t ht => let ⟨h3, u, h4, h5⟩ := h2 j t ht; ⟨call_none h3, u, h4, call_ro h5⟩⟩
  | gv g o => cases hc; exact ⟨call_none h.1, h.2.1, h.2.2⟩
  | mp id =>
    simp only [convCV] at hc
    cases hk : fwd ρ id with
    | none => rw [hk] at hc; cases hc
    | some k =>
      rw [hk] at hc; cases hc
      obtain ⟨g, h1, h2⟩ := h
      exact ⟨g, by rw [call_at hk]; exact h1, h2⟩
  | sq f id =>
    simp only [convCV] at hc
    cases hk : fwd ρ id with
    | none => rw [hk] at hc; cases hc
    | some k =>
      rw [hk] at hc; cases hc
      obtain ⟨g, gm, h1, h2, h3, h4⟩ := h
      exact ⟨g, gm, h1, call_none h2, h3, by rw [call_at hk]; exact h4⟩
  | junk => cases hc; trivial
theorem conv_all (hr : RelE E C st a w) {vs : List Value} {xs ys : List CV} (h : All2 (RC E w) vs xs) (hc : allSome (xs.map (convCV m st ρ)) = some ys) : All2 (RC (E.call m ρ) w) vs ys := by
  obtain ⟨h1, h2⟩ := allSome_get hc
  refine All2.mk (by rw [h.length, h1]) fun i v y hv hy => ?_
  obtain ⟨x, h3, h4⟩ := h2 i y hy
  obtain ⟨v', h5, h6⟩ := h.get h3
  rw [h5] at hv; cases hv
  exact conv_rc hr h6 h4
theorem conv_rt (hr : RelE E C st a w) {v : Value} {x y : TV} (h : RT E w v x) (hc : convTV m st ρ x = some y) : RT (E.call m ρ) w v y := by
  cases x with
  | c x =>
    simp only [convTV] at hc
    cases hx : convCV m st ρ x with
    | none => rw [hx] at hc; cases hc
    | some z => rw [hx] at hc; cases hc; exact conv_rc hr (rtC h) hx
  | agg xs =>
    simp only [convTV] at hc
    cases hx : allSome (xs.map (convCV m st ρ)) with
    | none => rw [hx] at hc; cases hc
    | some z =>
      rw [hx] at hc; cases hc
      obtain ⟨vs, h1, h2⟩ := rtA h
      exact ⟨vs, h1, conv_all hr h2 hx⟩
  | tup xs => cases hc
theorem convNC1 : ∀ {x z : List NC}, allSome (x.map (convNC m st ρ)) = some z → z = x ∧ ∀ c, c ∈ x → ∀ y, c ≠ NC.c y
  | [], z, h => by cases h; exact ⟨rfl, fun c hc => by cases hc⟩
  | c :: x, z, h => by
    cases c with
    | c y => cases h
    | t t =>
      simp only [List.map_cons, convNC, allSome] at h
      cases hl : allSome (x.map (convNC m st ρ)) with
      | none => rw [hl] at h; cases h
      | some z' =>
        rw [hl] at h
        cases h
        obtain ⟨h1, h2⟩ := convNC1 hl
        exact ⟨by rw [h1], fun c hc y e => (List.mem_cons.1 hc).elim (fun e' => by rw [e'] at e; cases e) (fun hc => h2 c hc y e)⟩
    | row a b r =>
      simp only [List.map_cons, convNC, allSome] at h
      cases hl : allSome (x.map (convNC m st ρ)) with
      | none => rw [hl] at h; cases h
      | some z' =>
        rw [hl] at h
        cases h
        obtain ⟨h1, h2⟩ := convNC1 hl
        exact ⟨by rw [h1], fun c hc y e => (List.mem_cons.1 hc).elim (fun e' => by rw [e'] at e; cases e) (fun hc => h2 c hc y e)⟩
theorem convNCs : ∀ {xs z : List (List NC)}, allSome (xs.map fun x => allSome (x.map (convNC m st ρ))) = some z → z = xs ∧ ∀ x, x ∈ xs → ∀ c, c ∈ x → ∀ y, c ≠ NC.c y
  | [], z, h => by cases h; exact ⟨rfl, fun c hc => by cases hc⟩
  | x :: xs, z, h => by
    simp only [List.map_cons] at h
    cases h1 : allSome (x.map (convNC m st ρ)) with
    | none => rw [h1] at h; cases h
    | some x' =>
      rw [h1] at h
      simp only [allSome] at h
      cases h2 : allSome (xs.map fun x => allSome (x.map (convNC m st ρ))) with
      | none => rw [h2] at h; cases h
      | some z' =>
        rw [h2] at h
        cases h
        obtain ⟨e1, e2⟩ := convNC1 h1
        obtain ⟨e3, e4⟩ := convNCs h2
        exact ⟨by rw [e1, e3], fun y hy => (List.mem_cons.1 hy).elim (fun e => e ▸ e2) (e4 y)⟩
theorem conv_obj (hr : RelE E C st a w) {j k : Nat} {x y : AObj} (hk : fwd ρ j = some k) (h : RObj E w j x) (hc : convObj m st ρ x = some y) : RObj (E.call m ρ) w k y := by
  cases x with
  | cells xs =>
    simp only [convObj] at hc
    cases hx : allSome (xs.map (convCV m st ρ)) with
    | none => rw [hx] at hc; cases hc
    | some z =>
      rw [hx] at hc; cases hc
      obtain ⟨g, base, cur, ty, h1, h2, h3, h4⟩ := h
      obtain ⟨h5, h6⟩ := allSome_get hx
      refine ⟨g, base, cur, ty, by rw [call_at hk]; exact h1, h2, by omega, fun i c hc => ?_⟩
      obtain ⟨c0, h7, h8⟩ := h6 i c hc
      obtain ⟨h9, v, h10, h11, h12⟩ := h4 i c0 h7
      exact ⟨call_own h9 hk, v, h10, h11, conv_rc hr h12 h8⟩
  | arr ty sz xs =>
    cases hc
    rcases h with ⟨h1, h2⟩ | ⟨g, cap, cur, h1, h2, h3, h4, h5, h6, h7, h8⟩
    · exact .inl ⟨by rw [call_at hk]; exact h1, h2⟩
    · refine .inr ⟨g, cap, cur, by rw [call_at hk]; exact h1, h2, h3, h4, h5, fun o => call_own (h6 o) hk, h7, fun i x hx j t ht => ?_⟩
      obtain ⟨v, h9, h10⟩ := h8 i x hx j t ht
      exact ⟨v, h9, call_ro h10⟩
  | mp d es =>
    cases hc
    obtain ⟨g, arr, clock, h1, h2, h3, h4, h5⟩ := h
    exact ⟨g, arr, clock, by rw [call_at hk]; exact h1, h2, h3, fun o => call_own (h4 o) hk, h5⟩
  | nest ty sz xs =>
    simp only [convObj] at hc
    cases hx : allSome (xs.map fun x => allSome (x.map (convNC m st ρ))) with
    | none => rw [hx] at hc; cases hc
    | some z =>
      rw [hx] at hc
      cases hc
      have key : z = xs ∧ ∀ x, x ∈ xs → ∀ c, c ∈ x → ∀ y, c ≠ NC.c y := convNCs hx
      obtain ⟨rfl, key⟩ := key
      have := RNest.mono (E' := E.call m ρ) (f := fun y => y) (fun B hB => by rw [call_at hk]; exact hB) (fun b o ho => call_own ho hk) blk_same (fun v t hv => call_ro hv) (fun x hx c hc v y e hy => absurd e (key x hx c hc y)) h
      rw [rn_id] at this
      exact this
end
end Go.Proofs.YthnpbfljoghbmaaA
/- The calculus, eleventh part: behind a call. -/
namespace Go.Proofs.YthnpbfljoghbmaaA
set_option autoImplicit false
set_option linter.unusedVariables false

section
variable {P : Program} {Γ : Nat → Option Row} {C : Ctx} {Q : Exit → St → Prop} {st : St} {o : Oper} {K : St → Prop} {E Ec : Env} {a : Act} {w w' : World} {m : Bool} {ρ : List Nat} {n0 n1 : Nat}

/-- The caller's view behind the call. -/
def Env.back (E Ec : Env) (ρ : List Nat) (n0 nx : Nat) (size : Nat) : Env :=
  ⟨fun j => if nx ≤ j then Ec.at_ (j - nx + n0) else E.at_ j, fun b o => if b < size ∧ ((E.own b o).bind (fwd ρ)).isNone = true then E.own b o else (Ec.own b o).map (bwd ρ n0 nx)⟩

structure Back (C : Ctx) (st : St) (a : Act) (w w' : World) (E Ec : Env) (m : Bool) (ρ : List Nat) (n0 : Nat) : Prop where
  rel : RelE E C st a w
  fc : FC w (E.call m ρ) Ec w'
  n0 : n0 = ρ.length + 1
  alive : ∀ j, j ∈ ρ → (st.obj j).isSome = true
  nodup : ∀ k j, ρ[k]? = some j → posOf j ρ = some k
  zero : Ec.at_ 0 = none

theorem robj_at {id : Nat} {x : AObj} (h : RObj E w id x) : ∃ B, E.at_ id = some B := by
  cases x with
  | cells xs => obtain ⟨g, b, c, t, h1, _⟩ := h; exact ⟨_, h1⟩
  | arr ty sz xs => rcases h with ⟨h1, _⟩ | ⟨g, cap, cur, h1, _⟩ <;> exact ⟨_, h1⟩
  | mp d es => obtain ⟨g, _, _, h1, _⟩ := h; exact ⟨_, h1⟩
  | nest ty sz xs => rcases h with ⟨h1, _⟩ | ⟨g, cap, cur, h1, _⟩ <;> exact ⟨_, h1⟩
theorem Back.ne (h : Back C st a w w' E Ec m ρ n0) {j : Nat} (hj : j ∈ ρ) : j ≠ 0 := by
  obtain ⟨x, hx⟩ := Option.isSome_iff_exists.1 (h.alive j hj)
  exact obj_pos h.rel hx
theorem Back.live (h : Back C st a w w' E Ec m ρ n0) {j : Nat} (hj : j ∈ ρ) : (∃ B, E.at_ j = some B) ∧ j < st.next := by
  obtain ⟨x, hx⟩ := Option.isSome_iff_exists.1 (h.alive j hj)
  obtain ⟨B, hB⟩ := robj_at (h.rel.objs _ _ hx)
  refine ⟨⟨B, hB⟩, ?_⟩
  rcases Nat.lt_or_ge j st.next with h1 | h1
  · exact h1
  · rw [h.rel.next j h1] at hB; cases hB
theorem fwd_none {j : Nat} (h : j ∉ ρ) : fwd ρ j = none := by
  simp only [fwd]
  cases hp : posOf j ρ with
  | none => rfl
  | some k => exact absurd (List.mem_of_getElem? (posOf_get hp)) h
theorem Back.own (h : Back C st a w w' E Ec m ρ n0) {b o k : Nat} (hk : Ec.own b o = some k) (hk0 : k ≠ 0) : (E.back Ec ρ n0 st.next w.heap.size).own b o = some (bwd ρ n0 st.next k) := by
  simp only [Env.back]
  rw [if_neg, hk]
  · rfl
  · rintro ⟨h1, h2⟩
    have hf : fixd ((E.call m ρ).own b o) := by
      cases hE : E.own b o with
      | none => exact .inl (call_none hE)
      | some j =>
        rw [hE] at h2
        simp only [Option.bind_some, Option.isNone_iff_eq_none] at h2
        exact call_fixd hE h2
    have := h.fc.keep b o h1 hf
    rw [this] at hk
    rcases hf with h3 | h3
    · rw [h3] at hk; cases hk
    · rw [h3] at hk; cases hk; exact hk0 rfl
theorem Back.at_ (h : Back C st a w w' E Ec m ρ n0) {k : Nat} {B : Base} (hB : Ec.at_ k = some B) : (E.back Ec ρ n0 st.next w.heap.size).at_ (bwd ρ n0 st.next k) = some B := by
  have hk0 : k ≠ 0 := by intro e; subst e; rw [h.zero] at hB; cases hB
  have hn := h.n0
  simp only [Env.back, bwd]
  rw [if_neg hk0]
  by_cases hk : k < n0
  · rw [if_pos hk]
    have hj : k - 1 < ρ.length := by omega
    have hg : ρ[k - 1]? = some ρ[k - 1] := List.getElem?_eq_getElem hj
    rw [hg]
    obtain ⟨⟨B', hB'⟩, hlt⟩ := h.live (List.getElem_mem hj)
    show (if st.next ≤ ρ[k - 1] then _ else _) = _
    rw [if_neg (by omega)]
    have h1 : (E.call m ρ).at_ k = some B' := by
      simp only [Env.call]
      rw [if_neg hk0, hg]
      exact hB'
    have := h.fc.at_ k B' h1
    rw [this] at hB
    cases hB
    exact hB'
  · rw [if_neg hk, if_pos (by omega), show k - n0 + st.next - st.next + n0 = k by omega]
    exact hB
theorem Back.step (h : Back C st a w w' E Ec m ρ n0) : Step E (E.back Ec ρ n0 st.next w.heap.size) w w' (fun j => j ∈ ρ) where
  os := h.fc.os
  tape := h.fc.tape
  output := h.fc.output
  size := h.fc.size
  ch0 := fun h0 => h.ne h0 rfl
  at_ := fun id B hB => by
    have hlt : id < st.next := by
      rcases Nat.lt_or_ge id st.next with h1 | h1
      · exact h1
      · rw [h.rel.next id h1] at hB; cases hB
    simp only [Env.back]
    rw [if_neg (by omega)]
    exact hB
  none_ := fun b o hb h0 => by
    simp only [Env.back]
    rw [if_pos ⟨hb, by rw [h0]; rfl⟩]
    exact h0
  some_ := fun b o id hi hn => by
    have hb : b < w.heap.size := by
      rcases Nat.lt_or_ge b w.heap.size with h1 | h1
      · exact h1
      · rw [h.rel.fc.fresh b o h1] at hi; cases hi
    simp only [Env.back]
    rw [if_pos ⟨hb, by rw [hi]; simp [fwd_none hn]⟩]
    exact hi
  cell := fun b o v hc hn => by
    have hb := cell_lt hc
    obtain ⟨cur, ty, fr, h1, h2⟩ := cell_cur hc
    obtain ⟨cur', h3, h4, h5⟩ := (h.fc.blk b hb).2 cur ty fr h1
    have hf : fixd ((E.call m ρ).own b o) := by
      cases hE : E.own b o with
      | none => exact .inl (call_none hE)
      | some j => exact call_fixd hE (fwd_none (hn j hE))
    rw [cur_cell h3, h5 o hf]
    exact h2
  blk := fun b cur ty fr hb => by
    have hb' : b < w.heap.size := (Array.getElem?_eq_some_iff.1 hb).1
    obtain ⟨cur', h3, h4, _⟩ := (h.fc.blk b hb').2 cur ty fr hb
    exact ⟨cur', h3, h4⟩
  mp := fun b id arr clock hb ho hn => by
    have hb' : b < w.heap.size := (Array.getElem?_eq_some_iff.1 hb).1
    exact ((h.fc.blk b hb').1 fun o => call_fixd (ho o) (fwd_none hn)).trans hb
  same := fun b hb hn => (h.fc.blk b hb).1 fun o => by
    rcases hn o with h1 | h1
    · exact .inl (call_none h1)
    · exact call_fixd h1 (fwd_none fun h0 => h.ne h0 rfl)
  fresh := fun b o hb => by
    simp only [Env.back]
    have hs := h.fc.size
    rw [if_neg (by omega), h.fc.fresh b o hb]
    rfl
  pos := fun b o he => by
    simp only [Env.back] at he
    split at he
    · exact he
    · rename_i hnp
      cases hk : Ec.own b o with
      | none => rw [hk] at he; cases he
      | some k =>
        rw [hk] at he
        simp only [Option.map_some, Option.some.injEq] at he
        have hk0 : k = 0 := by
          simp only [bwd] at he
          split at he
          · assumption
          · split at he
            · rename_i h1 h2
              have hn := h.n0
              rw [List.getElem?_eq_getElem (by omega : k - 1 < ρ.length)] at he
              exact absurd he (h.ne (List.getElem_mem _))
            · have := h.rel.npos; omega
        subst hk0
        have h0 := h.fc.pos b o hk
        have hE : E.own b o = some 0 ∨ ∃ j, E.own b o = some j ∧ fwd ρ j = none := by
          simp only [Env.call] at h0
          cases hE : E.own b o with
          | none => rw [hE] at h0; cases h0
          | some j =>
            rw [hE] at h0
            cases hf : fwd ρ j with
            | none => exact .inr ⟨j, rfl, hf⟩
            | some k => simp only [hf] at h0; cases h0; exact absurd rfl (Nat.ne_of_gt (fwd_get hf).1)
        rcases hE with hE | ⟨j, hE, hf⟩
        · exact hE
        · exfalso
          apply hnp
          refine ⟨?_, by rw [hE]; simp [hf]⟩
          rcases Nat.lt_or_ge b w.heap.size with h1 | h1
          · exact h1
          · rw [h.rel.fc.fresh b o h1] at hE; cases hE

theorem Back.ro (h : Back C st a w w' E Ec false ρ n0) {v : Value} {t : Tree} (hv : RO w' (roE Ec) v t) : RO w' (roE (E.back Ec ρ n0 st.next w.heap.size)) v t := by
  refine hv.mono fun b o v' hb hc => ⟨?_, hc⟩
  have hb' : Ec.own b o = none := hb
  show (E.back Ec ρ n0 st.next w.heap.size).own b o = none
  simp only [Env.back]
  split
  · rename_i hlt
    cases hE : E.own b o with
    | none => rfl
    | some j =>
      have hf : fwd ρ j = none := by have := hlt.2; rw [hE] at this; simpa using this
      have h1 : (E.call false ρ).own b o = some 0 := by simp only [Env.call, hE, hf]; rfl
      have := h.fc.keep b o hlt.1 (.inr h1)
      rw [this, h1] at hb'
      cases hb'
  · rw [hb']; rfl
theorem Back.tree (h : Back C st a w w' E Ec m ρ n0) {v : Value} {t : Tree} (hf : m = true → ∃ u, t = .v u) (hv : RO w' (roE Ec) v t) : RO w' (roE (E.back Ec ρ n0 st.next w.heap.size)) v t := by
  cases m with
  | false => exact h.ro hv
  | true =>
    obtain ⟨u, rfl⟩ := hf rfl
    cases hv with
    | v _ h1 => exact .v _ h1
def bwdO (ρ : List Nat) (n0 nx : Nat) : Nat → Option Nat := fun k => some (bwd ρ n0 nx k)
theorem Back.rc (h : Back C st a w w' E Ec m ρ n0) {v : Value} {x : CV} (hf : m = true → flatCV x) (hx : RC Ec w' v x) : RC (E.back Ec ρ n0 st.next w.heap.size) w' v (renCV (bwdO ρ n0 st.next) x) := by
  cases x with
  | t x => exact h.tree (fun hm => by have := hf hm; cases x with | v u => exact ⟨u, rfl⟩ | sl _ _ => exact this.elim) hx
  | own id lo len => exact hx.imp (fun ⟨h1, h2⟩ => ⟨h.at_ h1, h2⟩) (fun ⟨g, sz, cap, o, h1, h2⟩ => ⟨g, sz, cap, o, h.at_ h1, h2⟩)
  | ptr id off => obtain ⟨g, base, h1, h2⟩ := hx; exact ⟨g, base, h.at_ h1, h2⟩
  | ifp ty id off => obtain ⟨g, base, h1, h2⟩ := hx; exact ⟨g, base, h.at_ h1, h2⟩
  | mp id => obtain ⟨g, h1, h2⟩ := hx; exact ⟨g, h.at_ h1, h2⟩
  | ep id i j => obtain ⟨g, sz, cap, h1, h2⟩ := hx; exact ⟨g, sz, cap, h.at_ h1, h2⟩
  | rp xs =>
    cases m with
    | true => exact (hf rfl).elim
    | false =>
      obtain ⟨g, o, h1, h2⟩ := hx
      refine ⟨g, o, h1, fun j t ht => ?_⟩
      obtain ⟨h3, u, h4, h5⟩ := h2 j t ht
      refine ⟨?_, u, h4, h.ro h5⟩
      have := h.ro (v := .bool true) (t := .v (.bool true)) (.v _ rfl)
      simp only [Env.back]
      split
      · rename_i hlt
        cases hE : E.own g (o + j) with
        | none => rfl
        | some j' =>
          have hf : fwd ρ j' = none := by have := hlt.2; rw [hE] at this; simpa using this
          have h1 : (E.call false ρ).own g (o + j) = some 0 := by simp only [Env.call, hE, hf]; rfl
          have := h.fc.keep g (o + j) hlt.1 (.inr h1)
          rw [this, h1] at h3
          cases h3
      · rw [h3]; rfl
  | irp ty xs =>
    cases m with
    | true => exact (hf rfl).elim
    | false =>
      obtain ⟨g, o, h1, h2⟩ := hx
      refine ⟨g, o, h1, fun j t ht => ?_⟩
      obtain ⟨h3, u, h4, h5⟩ := h2 j t ht
      refine ⟨?_, u, h4, h.ro h5⟩
      have := h.ro (v := .bool true) (t := .v (.bool true)) (.v _ rfl)
      simp only [Env.back]
      split
      · rename_i hlt
        cases hE : E.own g (o + j) with
        | none => rfl
        | some j' =>
          have hf : fwd ρ j' = none := by have := hlt.2; rw [hE] at this; simpa using this
          have h1 : (E.call false ρ).own g (o + j) = some 0 := by simp only [Env.call, hE, hf]; rfl
          have := h.fc.keep g (o + j) hlt.1 (.inr h1)
          rw [this, h1] at h3
          cases h3
      · rw [h3]; rfl
  | gv g o =>
    cases m with
    | true => exact (hf rfl).elim
    | false =>
      obtain ⟨h3, h4, h5⟩ := hx
      refine ⟨?_, h4, h5⟩
      simp only [Env.back]
      split
      · rename_i hlt
        cases hE : E.own g o with
        | none => rfl
        | some j' =>
          have hf : fwd ρ j' = none := by have := hlt.2; rw [hE] at this; simpa using this
          have h1 : (E.call false ρ).own g o = some 0 := by simp only [Env.call, hE, hf]; rfl
          have := h.fc.keep g o hlt.1 (.inr h1)
          rw [this, h1] at h3
          cases h3
      · rw [h3]; rfl
  | sq f id =>
    cases m with
    | true => exact (hf rfl).elim
    | false =>
      obtain ⟨g, gm, h1, h3, h4, h5⟩ := hx
      refine ⟨g, gm, h1, ?_, h4, h.at_ h5⟩
      simp only [Env.back]
      split
      · rename_i hlt
        cases hE : E.own g 0 with
        | none => rfl
        | some j' =>
          have hf : fwd ρ j' = none := by have := hlt.2; rw [hE] at this; simpa using this
          have h1 : (E.call false ρ).own g 0 = some 0 := by simp only [Env.call, hE, hf]; rfl
          have := h.fc.keep g 0 hlt.1 (.inr h1)
          rw [this, h1] at h3
          cases h3
      · rw [h3]; rfl
  | junk => trivial
theorem Back.all (h : Back C st a w w' E Ec m ρ n0) : ∀ {vs : List Value} {xs : List CV}, (m = true → ∀ x, x ∈ xs → flatCV x) → All2 (RC Ec w') vs xs → All2 (RC (E.back Ec ρ n0 st.next w.heap.size) w') vs (xs.map (renCV (bwdO ρ n0 st.next)))
  | [], [], _, _ => trivial
  | _ :: _, x :: xs, hf, k => ⟨h.rc (fun hm => hf hm x List.mem_cons_self) k.1, h.all (fun hm y hy => hf hm y (List.mem_cons_of_mem _ hy)) k.2⟩
  | [], _ :: _, _, k => k.elim
  | _ :: _, [], _, k => k.elim
theorem Back.rt1 (h : Back C st a w w' E Ec m ρ n0) {v : Value} {x : TV} (hf : m = true → match x with | .c x => flatCV x | .agg xs => ∀ x, x ∈ xs → flatCV x | .tup _ => False) (hx : RT1 Ec w' v x) : RT1 (E.back Ec ρ n0 st.next w.heap.size) w' v (renTV1 (bwdO ρ n0 st.next) x) := by
  cases x with
  | c x => exact h.rc hf hx
  | agg xs => obtain ⟨vs, h1, h2⟩ := hx; exact ⟨vs, h1, h.all hf h2⟩
  | tup xs => exact hx.elim
theorem Back.all1 (h : Back C st a w w' E Ec m ρ n0) : ∀ {vs : List Value} {xs : List TV}, (m = true → ∀ y, y ∈ xs → match y with | .c x => flatCV x | .agg xs => ∀ x, x ∈ xs → flatCV x | .tup _ => False) → All2 (RT1 Ec w') vs xs →
    All2 (RT1 (E.back Ec ρ n0 st.next w.heap.size) w') vs (xs.map (renTV1 (bwdO ρ n0 st.next)))
  | [], [], _, _ => trivial
  | _ :: _, x :: xs, hf, k => ⟨h.rt1 (fun hm => hf hm x List.mem_cons_self) k.1, h.all1 (fun hm y hy => hf hm y (List.mem_cons_of_mem _ hy)) k.2⟩
  | [], _ :: _, _, k => k.elim
  | _ :: _, [], _, k => k.elim
theorem Back.rt (h : Back C st a w w' E Ec m ρ n0) {v : Value} {x : TV} (hf : m = true → flatTV x) (hx : RT Ec w' v x) : RT (E.back Ec ρ n0 st.next w.heap.size) w' v (renTV (bwdO ρ n0 st.next) x) := by
  cases x with
  | c x => exact h.rc hf (rtC hx)
  | agg xs => exact h.rt1 (x := .agg xs) hf hx
  | tup xs => obtain ⟨vs, h1, h2⟩ := hx; exact ⟨vs, h1, h.all1 hf h2⟩
/-- Other names, another world: a row whose elements hold rows. -/
theorem RNest.monoT {T : Tree → Prop} {E E' : Env} {w w' : World} {id id' ty sz : Nat} {xs : List (List NC)} {f : CV → CV} (hat : ∀ B, E.at_ id = some B → E'.at_ id' = some B) (hown : ∀ b o, E.own b o = some id → E'.own b o = some id')
    (hblk : ∀ (g : Nat) cur t, w.heap[g]? = some (.cells cur t (0, 0)) → (∀ o, E.own g o = some id) → ∃ cur', w'.heap[g]? = some (.cells cur' t (0, 0)) ∧ cur'.size = cur.size ∧ ∀ (o : Nat) v, cur[o]? = some v → cur'[o]? = some v)
    (hT : ∀ x, x ∈ xs → ∀ c, c ∈ x → (∀ t, c = NC.t t → T t) ∧ ∀ a b r, c = NC.row a b r → ∀ y, y ∈ r → ∀ t, t ∈ y → T t)
    (hro : ∀ v t, T t → RO w (fun b o => E.own b o = none) v t → RO w' (fun b o => E'.own b o = none) v t) (hrc : ∀ x, x ∈ xs → ∀ c, c ∈ x → ∀ v y, c = NC.c y → RC E w v y → RC E' w' v (f y)) (h : RNest E w id ty sz xs) : RNest E' w' id' ty sz (xs.map fun x => x.map (NC.rn f)) := by
  rcases h with ⟨h1, rfl⟩ | ⟨g, cap, cur, h1, h2, h3, h4, h5, h6, h7, h8, h9⟩
  · exact .inl ⟨hat _ h1, rfl⟩
  obtain ⟨cur', k1, k2, k3⟩ := hblk g cur ty h2 h6
  refine .inr ⟨g, cap, cur', hat _ h1, k1, by omega, by simpa using h4, h5, fun o => hown _ _ (h6 o), fun x hx => ?_, fun i x hx j c hc => ?_, fun p q v v' b hp hq hv hv' hb hb' => ?_⟩
  · obtain ⟨y, hy, rfl⟩ := List.mem_map.1 hx
    simpa using h7 y hy
  · rw [List.getElem?_map] at hx
    cases hy : xs[i]? with
    | none => rw [hy] at hx; cases hx
    | some y =>
      rw [hy] at hx
      cases hx
      rw [List.getElem?_map] at hc
      cases hz : y[j]? with
      | none => rw [hz] at hc; cases hc
      | some z =>
        rw [hz] at hc
        cases hc
        obtain ⟨v, h10, h11⟩ := h8 i y hy j z hz
        refine ⟨v, k3 _ _ h10, ?_⟩
        cases z with
        | t t => exact hro _ _ ((hT y (List.mem_of_getElem? hy) _ (List.mem_of_getElem? hz)).1 t rfl) h11
        | c x => exact ⟨h11.1, hrc y (List.mem_of_getElem? hy) _ (List.mem_of_getElem? hz) v x rfl h11.2⟩
        | row a b r =>
          rcases h11 with ⟨q1, q2⟩ | ⟨g', cap', cu, o', q1, q0, q2, q3, q4, q5, q6, q7, q8, q9⟩
          · exact .inl ⟨q1, q2⟩
          · obtain ⟨cu', m1, m2, m3⟩ := hblk g' cu a q3 q7
            refine .inr ⟨g', cap', cu', o', q1, q0, q2, m1, by omega, q5, q6, fun o => hown _ _ (q7 o), q8, fun i x hx j t ht => ?_⟩
            obtain ⟨u, n1, n2⟩ := q9 i x hx j t ht
            exact ⟨u, m3 _ _ n1, hro _ _ ((hT y (List.mem_of_getElem? hy) _ (List.mem_of_getElem? hz)).2 a b r rfl x (List.mem_of_getElem? hx) t (List.mem_of_getElem? ht)) n2⟩
  · have back : ∀ p v, isRow xs sz p → cur'[p]? = some v → cur[p]? = some v := fun p v hp hv => by
      obtain ⟨i, j, x, a, b, r, e1, e2, e3⟩ := hp
      obtain ⟨u, e4, _⟩ := h8 i x e2 j _ e3
      rw [← e1] at e4
      have := k3 _ _ e4
      rw [hv] at this
      cases this
      exact e4
    exact h9 p q v v' b (isRow_rn hp) (isRow_rn hq) (back p v (isRow_rn hp) hv) (back q v' (isRow_rn hq) hv') hb hb'
theorem Back.robj (h : Back C st a w w' E Ec m ρ n0) {k : Nat} {x : AObj} (hf : m = true → flatObj x) (hx : RObj Ec w' k x) : RObj (E.back Ec ρ n0 st.next w.heap.size) w' (bwd ρ n0 st.next k) (renObj (bwdO ρ n0 st.next) x) := by
  have hk0 : k ≠ 0 := by
    intro e
    subst e
    obtain ⟨B, hB⟩ := robj_at hx
    rw [h.zero] at hB; cases hB
  cases x with
  | cells xs =>
    obtain ⟨g, base, cur, ty, h1, h2, h3, h4⟩ := hx
    refine ⟨g, base, cur, ty, h.at_ h1, h2, by simpa using h3, fun j c hc => ?_⟩
    rw [List.getElem?_map] at hc
    cases hx0 : xs[j]? with
    | none => rw [hx0] at hc; cases hc
    | some c0 =>
      rw [hx0] at hc
      cases hc
      obtain ⟨h5, v, h6, h7, h8⟩ := h4 j c0 hx0
      exact ⟨h.own h5 hk0, v, h6, h7, h.rc (fun hm => hf hm c0 (List.mem_of_getElem? hx0)) h8⟩
  | arr ty sz xs =>
    rcases hx with ⟨h1, h2⟩ | ⟨g, cap, cur, h1, h2, h3, h4, h5, h6, h7, h8⟩
    · exact .inl ⟨h.at_ h1, h2⟩
    · refine .inr ⟨g, cap, cur, h.at_ h1, h2, h3, h4, h5, fun o => h.own (h6 o) hk0, h7, fun i x hx j t ht => ?_⟩
      obtain ⟨v, h9, h10⟩ := h8 i x hx j t ht
      exact ⟨v, h9, h.tree (fun hm => hf hm x (List.mem_of_getElem? hx) t (List.mem_of_getElem? ht)) h10⟩
  | mp d es =>
    obtain ⟨g, arr, clock, h1, h2, h3, h4, h5⟩ := hx
    exact ⟨g, arr, clock, h.at_ h1, h2, h3, fun o => h.own (h4 o) hk0, h5⟩
  | nest ty sz xs =>
    cases m with
    | true =>
      refine RNest.monoT (T := fun t => ∃ v, t = .v v) (fun B hB => h.at_ hB) (fun b o ho => h.own ho hk0) blk_same (fun x hx c hc => ?_) (fun v t ht hv => h.tree (fun _ => ht) hv) (fun x hx c hc v y e hy => ?_) hx
      · have h1 := hf rfl x hx c hc
        refine ⟨fun t e => ?_, fun a b r e y hy t ht => ?_⟩
        · subst e
          cases t with
          | v v => exact ⟨v, rfl⟩
          | sl a b => exact h1.elim
        · subst e; exact h1 y hy t ht
      · have h1 := hf rfl x hx c hc
        subst e
        exact h1.elim
    | false => exact RNest.mono (fun B hB => h.at_ hB) (fun b o ho => h.own ho hk0) blk_same (fun v t hv => h.ro hv) (fun x hx c hc v y e hy => h.rc (fun hm => by cases hm) hy) hx

/-! ### The call -/
def delAll : List Nat → List (Nat × AObj) → List (Nat × AObj)
  | [], l => l
  | j :: ρ, l => delAll ρ (del j l)
theorem look_delAll {i : Nat} : ∀ {ρ : List Nat} {l : List (Nat × AObj)}, look i (delAll ρ l) = if i ∈ ρ then none else look i l
  | [], l => by simp [delAll]
  | j :: ρ, l => by
    simp only [delAll, look_delAll (ρ := ρ), look_del, List.mem_cons]
    by_cases h1 : i ∈ ρ
    · simp [h1]
    · by_cases h2 : i = j <;> simp [h1, h2]
def St.back (st : St) (ρ : List Nat) (objs1 : List (Nat × AObj)) (n0 n1 : Nat) : St :=
  ⟨st.tmps, objs1.map (fun p => (bwd ρ n0 st.next p.1, renObj (bwdO ρ n0 st.next) p.2)) ++ delAll ρ st.objs, st.next + (n1 - n0)⟩
theorem look_append {α : Type} {i : Nat} : ∀ {l l' : List (Nat × α)} {x : α}, look i (l ++ l') = some x → look i l = some x ∨ look i l' = some x
  | [], _, _, h => .inr h
  | (k, y) :: l, l', x, h => by
    simp only [List.cons_append, look] at h ⊢
    split at h
    · rename_i e; rw [if_pos e]; exact .inl h
    · rename_i e; rw [if_neg e]; exact look_append h
theorem look_back {i nx : Nat} : ∀ {l : List (Nat × AObj)} {x : AObj}, look i (l.map fun p => (bwd ρ n0 nx p.1, renObj (bwdO ρ n0 nx) p.2)) = some x → ∃ p, p ∈ l ∧ bwd ρ n0 nx p.1 = i ∧ renObj (bwdO ρ n0 nx) p.2 = x
  | [], _, h => by cases h
  | p :: l, x, h => by
    simp only [List.map_cons, look] at h
    split at h
    · rename_i e; cases h; exact ⟨p, List.mem_cons_self, e.symm, rfl⟩
    · obtain ⟨q, h1, h2⟩ := look_back h
      exact ⟨q, List.mem_cons_of_mem _ h1, h2⟩
/-- Names, each once. -/
def uniq : List (Nat × AObj) → Bool
  | [] => true
  | p :: l => (look p.1 l).isNone && uniq l
theorem look_uniq {p : Nat × AObj} : ∀ {l : List (Nat × AObj)}, uniq l = true → p ∈ l → look p.1 l = some p.2
  | [], _, h => by cases h
  | q :: l, hu, h => by
    simp only [uniq, Bool.and_eq_true, Option.isNone_iff_eq_none] at hu
    simp only [look]
    rcases List.mem_cons.1 h with e | h
    · subst e; rw [if_pos rfl]
    · rw [if_neg, look_uniq hu.2 h]
      intro e
      have := look_uniq hu.2 h
      rw [e, hu.1] at this
      cases this

def nodupB : List Nat → Bool
  | [] => true
  | j :: l => (posOf j l).isNone && nodupB l
theorem nodup_ok : ∀ {l : List Nat}, nodupB l = true → ∀ k j, l[k]? = some j → posOf j l = some k
  | [], _, k, j, h => by simp at h
  | i :: l, hu, k, j, h => by
    simp only [nodupB, Bool.and_eq_true, Option.isNone_iff_eq_none] at hu
    simp only [posOf]
    cases k with
    | zero => simp at h; subst h; rw [if_pos rfl]
    | succ k =>
      have h1 := nodup_ok hu.2 k j (by simpa using h)
      rw [if_neg, h1]
      · rfl
      · intro e; subst e; rw [hu.1] at h1; cases h1

theorem amOp_enter (hd : dstOk C.n o = true) (m : Bool) (ρ : List Nat) {f : FuncId} {tvs : List TV} {args : List TV} {objs0 objs1 : List (Nat × AObj)} {n0 n1 : Nat} {res : TV}
    (htc0 : TC P f args objs0 n0 res objs1 n1)
    (hent : ∀ {E : Env} {a : Act} {w : World}, RelE E C st a w → ∃ vs : List Value, All2 (RT E w) vs tvs ∧ (execOp a.eval o).run P w = (callFunc f vs.toArray).run P w)
    (hargs : allSome (tvs.map fun x => convTV m st ρ x) = some args) (hn0 : n0 = ρ.length + 1) (hnd : nodupB ρ = true) (halive : ∀ j, j ∈ ρ → (st.obj j).isSome = true)
    (hobj : ∀ k x, look k objs0 = some x → ∃ j y, fwd ρ j = some k ∧ st.obj j = some y ∧ convObj m st ρ y = some x) (hobj2 : ∀ k, 0 < k → k < n0 → (look k objs0).isSome = true) (hu : uniq objs1 = true)
    (hflat : m = true → flatTV res ∧ ∀ p, p ∈ objs1 → flatObj p.2) (hK : K ((st.back ρ objs1 n0 n1).put o.dst (renTV (bwdO ρ n0 st.next) res))) : amOp P C o Q K st := by
  obtain ⟨⟨fn, hf, hname, hb⟩, htc⟩ := htc0
  intro a w ⟨E, hr⟩ next hn
  obtain ⟨vs, hvt, hex⟩ := hent hr
  have hall : All2 (RT (E.call m ρ) w) vs args := by
    obtain ⟨h1, h2⟩ := allSome_get hargs
    refine All2.mk (by rw [hvt.length, h1]) fun i v y hv hy => ?_
    obtain ⟨x, h3, h4⟩ := h2 i y hy
    obtain ⟨v', h5, h6⟩ := hvt.get h3
    rw [hv] at h5
    cases h5
    exact conv_rt hr h6 h4
  have hrun : (execOp a.eval o).run P w = .ok (.enter f vs.toArray) w := by
    have h1 : fn.name ≠ "runtime.NumGoroutine" := by simpa using hname
    obtain ⟨c, hc⟩ := Option.isSome_iff_exists.1 hb
    rw [hex]
    simp [callFunc, hf, h1, hc]
  unfold Oper.wp
  rw [hrun, Oper.upon_enter]
  have hat0 : (E.call m ρ).at_ 0 = none := rfl
  refine (htc (E.call m ρ) w vs hall (fun k x hx => ?_) (fun id hid => ?_) hat0 (fun b o hb => call_none (hr.fc.fresh b o hb)) (fun b o k hk => ?_) (Pre.later hr.fc fun b o h => call_none h)).mono ?_
  · obtain ⟨j, y, h1, h2, h3⟩ := hobj k x hx
    exact conv_obj hr h1 (hr.objs _ _ h2) h3
  · simp only [Env.call]
    split
    · rfl
    · rw [List.getElem?_eq_none (by omega)]; rfl
  · simp only [Env.call] at hk
    cases hE : E.own b o with
    | none => rw [hE] at hk; cases hk
    | some j =>
      rw [hE] at hk
      cases hf' : fwd ρ j with
      | none =>
        simp only [hf'] at hk
        split at hk
        · cases hk
        · cases hk; exact .inl rfl
      | some k' =>
        simp only [hf'] at hk
        cases hk
        obtain ⟨h1, h2⟩ := fwd_get hf'
        have : k - 1 < ρ.length := (List.getElem?_eq_some_iff.1 h2).1
        exact .inr (hobj2 _ h1 (by omega))
  · rintro e w' ⟨v, Ec, rfl, hres, hfc, hob1, hnx, hz⟩
    have hback : Back C st a w w' E Ec m ρ n0 := ⟨hr, hfc, hn0, halive, nodup_ok hnd, hz⟩
    have hst := hback.step
    refine hn _ _ ⟨_, hK, E.back Ec ρ n0 st.next w.heap.size, RelE.put (st := st.back ρ objs1 n0 n1) (hr.step hst rfl (fun id hid => ?_) ?_ ?_ fun id x hx => ?_) (hback.rt (fun hm => (hflat hm).1) hres) (dstOk_lt hd)⟩
    · have hid' : st.next + (n1 - n0) ≤ id := hid
      simp only [Env.back]
      rw [if_pos (by omega)]
      exact hnx _ (by omega)
    · simp only [Env.back]
      rw [if_neg (by have := hr.npos; omega)]
      exact hr.zero
    · show 0 < st.next + (n1 - n0)
      have := hr.npos; omega
    · rcases look_append (show look id _ = some x from hx) with h1 | h1
      · right
        obtain ⟨p, h2, h3, h4⟩ := look_back h1
        subst h3; subst h4
        exact hback.robj (fun hm => (hflat hm).2 p h2) (hob1 _ _ (look_uniq hu h2))
      · left
        rw [look_delAll] at h1
        split at h1
        · cases h1
        · rename_i h2; exact ⟨h1, h2⟩
theorem evals_ok (hr : RelE E C st a w) : ∀ l : List Operand, All2 (RT E w) (l.map a.eval) (l.map st.eval)
  | [] => trivial
  | x :: l => ⟨hr.eval x, evals_ok hr l⟩
theorem amOp_call (hd : dstOk C.n o = true) (m : Bool) (ρ : List Nat) {f : FuncId} {xs : Array Operand} {ts : Array TypeId} {args : List TV} {objs0 objs1 : List (Nat × AObj)} {n0 n1 : Nat} {res : TV} (ho : o.op = .call { callee := .value (.func f), args := xs, argTypes := ts })
    (htc0 : TC P f args objs0 n0 res objs1 n1)
    (hargs : allSome (xs.toList.map fun x => convTV m st ρ (st.eval x)) = some args) (hn0 : n0 = ρ.length + 1) (hnd : nodupB ρ = true) (halive : ∀ j, j ∈ ρ → (st.obj j).isSome = true)
    (hobj : ∀ k x, look k objs0 = some x → ∃ j y, fwd ρ j = some k ∧ st.obj j = some y ∧ convObj m st ρ y = some x) (hobj2 : ∀ k, 0 < k → k < n0 → (look k objs0).isSome = true) (hu : uniq objs1 = true)
    (hflat : m = true → flatTV res ∧ ∀ p, p ∈ objs1 → flatObj p.2) (hK : K ((st.back ρ objs1 n0 n1).put o.dst (renTV (bwdO ρ n0 st.next) res))) : amOp P C o Q K st := by
  refine amOp_enter hd m ρ (tvs := xs.toList.map st.eval) htc0 (fun {E a w} hr => ⟨xs.toList.map a.eval, evals_ok hr _, ?_⟩) (by simpa [Function.comp_def] using hargs) hn0 hnd halive hobj hobj2 hu hflat hK
  have hvs : xs.map a.eval = (xs.toList.map a.eval).toArray := by apply Array.toList_inj.1; simp
  unfold execOp
  simp [ho, resolve, Deferred.ofValue, invoke, Act.eval, hvs]
/-- The method that a value of a pointer type has by this name. -/
def MthOk (P : Program) (ty : Nat) (name : String) (f : FuncId) : Prop :=
  ∃ e i m, P.underlying ty = some (.pointer e) ∧ P.info? ty = some i ∧ i.methods.find? (·.name == name) = some m ∧ m.path.toList = [] ∧ m.func = some (f, true)
theorem run_method {ty : Nat} {name : String} {f : FuncId} (h : MthOk P ty name f) (n : Nat) (v : Value) (w : World) : (method (n + 1) ty v name).run P w = .ok (f, v) w := by
  obtain ⟨e, i, m, h1, h2, h3, h4, h5⟩ := h
  have h6 : (typeInfo ty).run P w = .ok i w := by simp [typeInfo, h2]
  have h7 : ∀ x, (receiverAt ty (.val v) true x).run P w = .ok v w := fun x => by simp [receiverAt, run_underlying h1, Place.get]
  rw [method, Sem.run_bind, h6, Result.andThen_ok]
  simp only [h3, h4, h5, follow, Sem.run_bind, Sem.run_pure, Result.andThen_ok]
  split <;> simp [h7]
theorem amOp_inv (hd : dstOk C.n o = true) (ρ : List Nat) {f : FuncId} {recv : Operand} {name : String} {ty id off : Nat} {xs : Array Operand} {ts : Array TypeId} {args : List TV} {objs0 objs1 : List (Nat × AObj)} {n0 n1 : Nat} {res : TV} (ho : o.op = .call { callee := .invoke recv name, args := xs, argTypes := ts })
    (hm : MthOk P ty name f) (hrecv : st.eval recv = .c (.ifp ty id off)) (htc0 : TC P f args objs0 n0 res objs1 n1)
    (hargs : allSome ((.c (.ptr id off) :: xs.toList.map st.eval).map fun x => convTV false st ρ x) = some args) (hn0 : n0 = ρ.length + 1) (hnd : nodupB ρ = true) (halive : ∀ j, j ∈ ρ → (st.obj j).isSome = true)
    (hobj : ∀ k x, look k objs0 = some x → ∃ j y, fwd ρ j = some k ∧ st.obj j = some y ∧ convObj false st ρ y = some x) (hobj2 : ∀ k, 0 < k → k < n0 → (look k objs0).isSome = true) (hu : uniq objs1 = true)
    (hK : K ((st.back ρ objs1 n0 n1).put o.dst (renTV (bwdO ρ n0 st.next) res))) : amOp P C o Q K st := by
  refine amOp_enter hd false ρ (tvs := .c (.ptr id off) :: xs.toList.map st.eval) htc0 (fun {E a w} hr => ?_) hargs hn0 hnd halive hobj hobj2 hu (fun h => by cases h) hK
  have h1 := hr.eval recv
  rw [hrecv] at h1
  obtain ⟨g, base, h2, h3⟩ := rtC h1
  refine ⟨.pointer (some ⟨g, base + off, none⟩) :: xs.toList.map a.eval, ⟨⟨g, base, h2, rfl⟩, evals_ok hr _⟩, ?_⟩
  have hvs : xs.map a.eval = (xs.toList.map a.eval).toArray := by apply Array.toList_inj.1; simp
  have hmm : (method (P.types.size + Made.depth) ty (.pointer (some ⟨g, base + off, none⟩)) name).run P w = .ok (f, .pointer (some ⟨g, base + off, none⟩)) w := by
    have : P.types.size + Made.depth = (P.types.size + Made.depth - 1) + 1 := by
      have : 0 < Made.depth := by decide
      omega
    rw [this]
    exact run_method hm _ _ w
  unfold execOp
  have htk : List.take xs.size (List.map a.eval xs.toList) = List.map a.eval xs.toList := List.take_of_length_le (by simp)
  simp [ho, resolve, invoke, h3, callMethod, hmm, hvs, htk]
theorem amOp_invR (hd : dstOk C.n o = true) (ρ : List Nat) {f : FuncId} {recv : Operand} {name : String} {ty : Nat} {tr : List Tree} {xs : Array Operand} {ts : Array TypeId} {args : List TV} {objs0 objs1 : List (Nat × AObj)} {n0 n1 : Nat} {res : TV} (ho : o.op = .call { callee := .invoke recv name, args := xs, argTypes := ts })
    (hm : MthOk P ty name f) (hrecv : st.eval recv = .c (.irp ty tr)) (htc0 : TC P f args objs0 n0 res objs1 n1)
    (hargs : allSome ((.c (.rp tr) :: xs.toList.map st.eval).map fun x => convTV false st ρ x) = some args) (hn0 : n0 = ρ.length + 1) (hnd : nodupB ρ = true) (halive : ∀ j, j ∈ ρ → (st.obj j).isSome = true)
    (hobj : ∀ k x, look k objs0 = some x → ∃ j y, fwd ρ j = some k ∧ st.obj j = some y ∧ convObj false st ρ y = some x) (hobj2 : ∀ k, 0 < k → k < n0 → (look k objs0).isSome = true) (hu : uniq objs1 = true)
    (hK : K ((st.back ρ objs1 n0 n1).put o.dst (renTV (bwdO ρ n0 st.next) res))) : amOp P C o Q K st := by
  refine amOp_enter hd false ρ (tvs := .c (.rp tr) :: xs.toList.map st.eval) htc0 (fun {E a w} hr => ?_) hargs hn0 hnd halive hobj hobj2 hu (fun h => by cases h) hK
  have h1 := hr.eval recv
  rw [hrecv] at h1
  obtain ⟨g, base, h3, h2⟩ := rtC h1
  refine ⟨.pointer (some ⟨g, base, none⟩) :: xs.toList.map a.eval, ⟨⟨g, base, rfl, h2⟩, evals_ok hr _⟩, ?_⟩
  have hvs : xs.map a.eval = (xs.toList.map a.eval).toArray := by apply Array.toList_inj.1; simp
  have hmm : (method (P.types.size + Made.depth) ty (.pointer (some ⟨g, base, none⟩)) name).run P w = .ok (f, .pointer (some ⟨g, base, none⟩)) w := by
    have : P.types.size + Made.depth = (P.types.size + Made.depth - 1) + 1 := by
      have : 0 < Made.depth := by decide
      omega
    rw [this]
    exact run_method hm _ _ w
  unfold execOp
  have htk : List.take xs.size (List.map a.eval xs.toList) = List.map a.eval xs.toList := List.take_of_length_le (by simp)
  simp [ho, resolve, invoke, h3, callMethod, hmm, hvs, htk]
/-- A call that is handed no block and hands back none. -/
theorem amOp_q (hd : dstOk C.n o = true) (m : Bool) {f : FuncId} {xs : Array Operand} {ts : Array TypeId} {args : List TV} {res : TV} (ho : o.op = .call { callee := .value (.func f), args := xs, argTypes := ts }) (htc : TC P f args [] 1 res [] 1)
    (hargs : allSome (xs.toList.map fun x => convTV m st [] (st.eval x)) = some args) (hflat : m = true → flatTV res) (hres : ∀ f, renTV f res = res) (hK : K (st.put o.dst res)) : amOp P C o Q K st :=
  amOp_call hd m [] ho htc hargs rfl rfl (fun j hj => by cases hj) (fun k x h => by cases h) (fun k h1 h2 => by omega) rfl (fun hm => ⟨hflat hm, fun p hp => by cases hp⟩) (by rw [hres]; exact hK)
end
end Go.Proofs.YthnpbfljoghbmaaA
