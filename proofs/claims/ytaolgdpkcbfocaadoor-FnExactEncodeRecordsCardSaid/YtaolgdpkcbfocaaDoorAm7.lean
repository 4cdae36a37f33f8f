/- The calculus, seventh part: rows that are made: append, make. -/
import Derived.Test.YtaolgdpkcbfocaaDoorAm6
import Derived.Deep.AppendSrc
import Derived.Laws.MakeOwn
namespace Go.Proofs.YtaolgdpkcbfocaaDoorA
set_option autoImplicit false
set_option linter.unusedVariables false

/-- The cells of a row, one behind the other. -/
structure Flat (w : World) (A : Nat → Nat → Prop) (sz : Nat) (xs : List (List Tree)) (vs : List Value) : Prop where
  len : vs.length = xs.length * sz
  row : ∀ x, x ∈ xs → x.length = sz
  ro : ∀ (i : Nat) (x : List Tree), xs[i]? = some x → ∀ (j : Nat) (t : Tree), x[j]? = some t → ∃ v, vs[i * sz + j]? = some v ∧ RO w A v t

theorem div_lt_len {k n sz : Nat} (h : k < n * sz) : k / sz < n ∧ k % sz < sz ∧ k / sz * sz + k % sz = k := by
  have hs : 0 < sz := by
    rcases Nat.eq_zero_or_pos sz with e | e
    · subst e; simp at h
    · exact e
  refine ⟨(Nat.div_lt_iff_lt_mul hs).2 h, Nat.mod_lt _ hs, ?_⟩
  rw [Nat.mul_comm]; exact Nat.div_add_mod k sz
theorem idx_lt {i j n sz : Nat} (hi : i < n) (hj : j < sz) : i * sz + j < n * sz := by
  have : (i + 1) * sz ≤ n * sz := Nat.mul_le_mul_right _ hi
  rw [Nat.add_mul] at this
  omega
section
variable {w w' : World} {A A' : Nat → Nat → Prop} {sz : Nat} {xs ys : List (List Tree)} {vs us : List Value}
theorem Flat.at_ (h : Flat w A sz xs vs) {k : Nat} (hk : k < xs.length * sz) : ∃ (v : Value) (t : Tree), vs[k]? = some v ∧ RO w A v t := by
  obtain ⟨h1, h2, h3⟩ := div_lt_len hk
  have hx : xs[k / sz]? = some xs[k / sz] := List.getElem?_eq_getElem h1
  have hl := h.row xs[k / sz] (List.getElem_mem h1)
  obtain ⟨v, h4, h5⟩ := h.ro _ _ hx (k % sz) _ (List.getElem?_eq_getElem (by omega))
  rw [h3] at h4
  exact ⟨v, _, h4, h5⟩
theorem Flat.one (h : Flat w A sz xs vs) : ∀ u, u ∈ vs → u.oneCell' = true := by
  intro u hu
  obtain ⟨k, hk, rfl⟩ := List.getElem_of_mem hu
  obtain ⟨v, t, h1, h2⟩ := h.at_ (k := k) (by rw [← h.len]; exact hk)
  rw [List.getElem?_eq_getElem hk] at h1
  cases h1
  exact h2.one
theorem Flat.mono (h : Flat w A sz xs vs) (hm : ∀ v t, RO w A v t → RO w' A' v t) : Flat w' A' sz xs vs :=
  ⟨h.len, h.row, fun i x hx j t ht => let ⟨v, h1, h2⟩ := h.ro i x hx j t ht; ⟨v, h1, hm _ _ h2⟩⟩
theorem Flat.append (h : Flat w A sz xs vs) (k : Flat w A sz ys us) : Flat w A sz (xs ++ ys) (vs ++ us) := by
  refine ⟨by simp [h.len, k.len, Nat.add_mul], fun x hx => (List.mem_append.1 hx).elim (h.row x) (k.row x), fun i x hx j t ht => ?_⟩
  have hj : j < sz := by
    have := (List.getElem?_eq_some_iff.1 ht).1
    rcases List.mem_append.1 (List.mem_of_getElem? hx) with h1 | h1
    · rw [h.row x h1] at this; exact this
    · rw [k.row x h1] at this; exact this
  by_cases hi : i < xs.length
  · rw [List.getElem?_append_left hi] at hx
    obtain ⟨v, h1, h2⟩ := h.ro i x hx j t ht
    exact ⟨v, by rw [List.getElem?_append_left (by rw [h.len]; exact idx_lt hi hj)]; exact h1, h2⟩
  · rw [List.getElem?_append_right (by omega)] at hx
    obtain ⟨v, h1, h2⟩ := k.ro _ x hx j t ht
    refine ⟨v, ?_, h2⟩
    have e : i * sz + j = vs.length + ((i - xs.length) * sz + j) := by
      rw [h.len, ← Nat.add_assoc, ← Nat.add_mul]; congr 2; omega
    rw [e, List.getElem?_append_right (by omega), Nat.add_sub_cancel_left]
    exact h1
theorem Flat.take (h : Flat w A sz xs vs) (n : Nat) : Flat w A sz (xs.take n) (vs.take (n * sz)) := by
  refine ⟨?_, fun x hx => h.row x (List.mem_of_mem_take hx), fun i x hx j t ht => ?_⟩
  · rw [List.length_take, List.length_take, h.len]
    rcases Nat.le_total n xs.length with h1 | h1
    · rw [Nat.min_eq_left h1, Nat.min_eq_left (Nat.mul_le_mul_right _ h1)]
    · rw [Nat.min_eq_right h1, Nat.min_eq_right (Nat.mul_le_mul_right _ h1)]
  · rw [List.getElem?_take] at hx
    split at hx
    · rename_i hi
      obtain ⟨v, h1, h2⟩ := h.ro i x hx j t ht
      have hj : j < sz := by rw [← h.row x (List.mem_of_getElem? hx)]; exact (List.getElem?_eq_some_iff.1 ht).1
      exact ⟨v, by rw [List.getElem?_take, if_pos (idx_lt hi hj)]; exact h1, h2⟩
    · cases hx
theorem Flat.drop (h : Flat w A sz xs vs) (n : Nat) : Flat w A sz (xs.drop n) (vs.drop (n * sz)) := by
  refine ⟨by simp [h.len, Nat.sub_mul], fun x hx => h.row x (List.mem_of_mem_drop hx), fun i x hx j t ht => ?_⟩
  rw [List.getElem?_drop] at hx
  obtain ⟨v, h1, h2⟩ := h.ro _ x hx j t ht
  exact ⟨v, by rw [List.getElem?_drop, ← Nat.add_assoc, ← Nat.add_mul]; exact h1, h2⟩
theorem Flat.nil : Flat w A sz [] [] := ⟨by simp, (fun x hx => by cases hx), (fun i x hx => by simp at hx)⟩
/-- Cells that are all told: their values. -/
theorem flat_of_cells {g off : Nat} (hrow : ∀ x, x ∈ xs → x.length = sz) (h : ∀ (i : Nat) (x : List Tree), xs[i]? = some x → ∀ (j : Nat) (t : Tree), x[j]? = some t → ∃ v, w.cell? ⟨g, off + i * sz + j, none⟩ = some v ∧ RO w A v t) :
    ∃ vs, Flat w A sz xs vs ∧ w.rangeAt g off vs := by
  have hk : ∀ k, k < xs.length * sz → ∃ v, w.cell? ⟨g, off + k, none⟩ = some v := fun k hk => by
    obtain ⟨h1, h2, h3⟩ := div_lt_len hk
    have hl := hrow xs[k / sz] (List.getElem_mem h1)
    obtain ⟨v, h4, _⟩ := h _ _ (List.getElem?_eq_getElem h1) (k % sz) _ (List.getElem?_eq_getElem (by omega))
    rw [Nat.add_assoc, h3] at h4
    exact ⟨v, h4⟩
  refine ⟨(List.range (xs.length * sz)).map fun k => (w.cell? ⟨g, off + k, none⟩).getD undef, ⟨by simp, hrow, fun i x hx j t ht => ?_⟩, fun j v hv => ?_⟩
  · obtain ⟨v, h1, h2⟩ := h i x hx j t ht
    have hi := (List.getElem?_eq_some_iff.1 hx).1
    have hj : j < sz := by rw [← hrow x (List.mem_of_getElem? hx)]; exact (List.getElem?_eq_some_iff.1 ht).1
    refine ⟨v, ?_, h2⟩
    rw [List.getElem?_map, List.getElem?_range (idx_lt hi hj)]
    simp only [Option.map_some]
    rw [← Nat.add_assoc, h1]
    rfl
  · rw [List.getElem?_map] at hv
    have hj : j < xs.length * sz := by
      rcases Nat.lt_or_ge j (xs.length * sz) with h1 | h1
      · exact h1
      · rw [List.getElem?_eq_none (by simpa using h1)] at hv; cases hv
    rw [List.getElem?_range hj] at hv
    obtain ⟨u, hu⟩ := hk j hj
    rw [Option.map_some, hu] at hv
    cases hv
    exact hu
end

section
variable {P : Program} {Γ : Nat → Option Row} {C : Ctx} {Q : Exit → St → Prop} {st : St} {o : Oper} {K : St → Prop} {E : Env} {a : Act} {w : World}
abbrev roE (E : Env) : Nat → Nat → Prop := fun b o => E.own b o = none

theorem arr_flat {id : Nat} {ty sz : Nat} {xs : List (List Tree)} (h : RObj E w id (.arr ty sz xs)) {g cap : Nat} (hat : E.at_ id = some (.arr g sz cap)) : ∃ cur, w.heap[g]? = some (.cells cur ty (0, 0)) ∧ cur.size = cap * sz ∧ xs.length ≤ cap ∧ cap ≤ maxLen ∧ (∀ o, E.own g o = some id) ∧
    ∃ vs, Flat w (roE E) sz xs vs ∧ w.rangeAt g 0 vs := by
  rcases h with ⟨h1, _⟩ | ⟨g', cap', cur, h1, h2, h3, h4, h5, h6, h7, h8⟩
  · rw [hat] at h1; cases h1
  rw [hat] at h1; cases h1
  refine ⟨cur, h2, h3, h4, h5, h6, flat_of_cells h7 fun i x hx j t ht => ?_⟩
  obtain ⟨v, h9, h10⟩ := h8 i x hx j t ht
  exact ⟨v, by rw [cur_cell h2, Nat.zero_add]; exact h9, h10⟩
theorem robj_of_flat {id ty sz g cap : Nat} {cur : Array Value} {xs : List (List Tree)} {vs : List Value} (hat : E.at_ id = some (.arr g sz cap)) (hg : w.heap[g]? = some (.cells cur ty (0, 0))) (hs : cur.size = cap * sz) (hl : xs.length ≤ cap) (hm : cap ≤ maxLen)
    (ho : ∀ o, E.own g o = some id) (hf : Flat w (roE E) sz xs vs) (hc : ∀ (k : Nat) (v : Value), vs[k]? = some v → cur[k]? = some v) : RObj E w id (.arr ty sz xs) :=
  .inr ⟨g, cap, cur, hat, hg, hs, hl, hm, ho, hf.row, fun i x hx j t ht => let ⟨v, h1, h2⟩ := hf.ro i x hx j t ht; ⟨v, hc _ _ h1, h2⟩⟩

/-- What an append's second argument yields. -/
def srcOf (st : St) (sz : Nat) : TV → Option (List (List Tree))
  | .c (.t (.sl s ys)) => if s = sz then some ys else none
  | .c (.own id lo len) => match st.obj id with
    | some (.arr _ s ys) => if s = sz ∧ lo + len ≤ ys.length then some ((ys.drop lo).take len) else none
    | _ => none
  | .c (.t (.v (.slice none 0 _))) => some []
  | .c (.t (.v (.string s))) => if sz = 1 then some (s.data.toList.map fun b => [.v (.int .u8 b.toNat)]) else none
  | _ => none
theorem addr_range {g off : Nat} {vs : List Value} (h : w.rangeAt g off vs) : ∀ j u, vs[j]? = some u → w.cell? ((⟨g, off, none⟩ : Addr).add j) = some u := fun j u hu => by
  rw [Addr.add_mid]; exact h j u hu
theorem src_ok (hr : RelE E C st a w) {sz tx : Nat} {v : Value} {x : TV} {ys : List (List Tree)} (hx : RT E w v x) (hs : srcOf st sz x = some ys) (hk : (∃ e', P.underlying tx = some (.slice e')) ∨ P.underlying tx = some .string)
    (hk2 : (∃ s, x = lit (.string s)) ∨ (∃ e', P.underlying tx = some (.slice e'))) (hk3 : (∀ s, x ≠ lit (.string s)) ∨ P.underlying tx = some .string) : ∃ news, Src P sz tx v ys.length news w ∧ Flat w (roE E) sz ys news := by
  have sliceK : (∀ s, x ≠ lit (.string s)) → ∃ e', P.underlying tx = some (.slice e') := fun h => hk2.resolve_left fun ⟨s, hs⟩ => h s hs
  unfold srcOf at hs
  split at hs
  · rename_i s zs
    split at hs
    · rename_i e; subst e; cases hs
      obtain ⟨e', he'⟩ := sliceK (fun s h => by cases h)
      obtain ⟨ad, cap, g, off, f, h2, h3, h4, h5, h6, h7, h8⟩ := ro_slice (rtT hx)
      obtain ⟨vs, h9, h10⟩ := flat_of_cells (w := w) (A := roE E) (g := g) (off := off) h5 fun i x hx j t ht => by
        have hi := (List.getElem?_eq_some_iff.1 hx).1
        have hj : j < s := by rw [← h5 x (List.mem_of_getElem? hx)]; exact (List.getElem?_eq_some_iff.1 ht).1
        exact ⟨_, (h7 i j hi hj).2, h8 i x hx j t ht⟩
      subst h2
      cases hz : ys with
      | nil =>
        subst hz
        have hv0 : vs = [] := List.eq_nil_of_length_eq_zero (by rw [h9.len]; simp)
        subst hv0
        cases ad with
        | none => exact ⟨[], Src.ofNil w he' cap, h9⟩
        | some ad => exact ⟨[], Src.ofSlice w he' ad 0 cap [] (by simp) (fun j u h => by simp at h) (fun u h => by cases h), h9⟩
      | cons y ys' =>
        rw [← hz]
        have := h6 (by rw [hz]; simp)
        subst this
        exact ⟨vs, Src.ofSlice w he' _ _ cap vs h9.len (addr_range h10) h9.one, h9⟩
    · cases hs
  · rename_i id lo len
    split at hs
    · rename_i ty s zs hob
      split at hs
      · rename_i e
        obtain ⟨e1, hle⟩ := e
        subst e1; cases hs
        obtain ⟨e', he'⟩ := sliceK (fun s h => by cases h)
        have hlen : ((zs.drop lo).take len).length = len := by rw [List.length_take, List.length_drop]; omega
        rcases rtC hx with ⟨h2, h3, h4, h5⟩ | ⟨g, sz', cap, of, h2, h3, h4, h5⟩
        · subst h5
          subst h3
          simp only [List.take_zero, List.length_nil]
          exact ⟨[], Src.ofNil w he' 0, Flat.nil⟩
        · have hro := hr.objs _ _ hob
          have hsz : sz' = s := by
            rcases hro with ⟨h9, _⟩ | ⟨g', cap', cur, h9, _⟩
            · rw [h2] at h9; cases h9
            · rw [h2] at h9; cases h9; rfl
          subst hsz
          obtain ⟨cur, h9, h10, h11, h12, h13, vs, h14, h15⟩ := arr_flat hro h2
          have hfl := (h14.drop lo).take len
          rw [hlen]
          subst h3
          refine ⟨_, Src.ofSlice w he' _ _ _ _ (by rw [hfl.len, hlen]) ?_ hfl.one, hfl⟩
          intro j u hu
          rw [List.getElem?_take] at hu
          split at hu
          · rename_i hj
            rw [List.getElem?_drop] at hu
            have hlt : lo < cap := by
              rcases Nat.eq_zero_or_pos len with e | e
              · subst e; simp at hj
              · omega
            rw [Addr.add_mid, h5 hlt]
            have := h15 _ u hu
            rwa [Nat.zero_add] at this
          · cases hu
      · cases hs
    · cases hs
  · cases hs
    obtain ⟨e', he'⟩ := sliceK (fun s h => by cases h)
    have h2 := ro_v (rtT hx)
    subst h2
    exact ⟨[], Src.ofNil w he' _, Flat.nil⟩
  · rename_i s
    split at hs
    · rename_i e; subst e; cases hs
      have h2 := ro_v (rtT hx)
      subst h2
      have hku : P.underlying tx = some .string := hk3.resolve_left fun h => h s rfl
      refine ⟨byteCells s, ?_, ⟨by simp [byteCells], fun x hx => ?_, fun i x hx j t ht => ?_⟩⟩
      · have := Src.ofString (P := P) w hku s
        rw [List.length_map, Array.length_toList]
        exact this
      · obtain ⟨b, _, rfl⟩ := List.mem_map.1 hx; rfl
      · rw [List.getElem?_map] at hx
        cases hb : s.data.toList[i]? with
        | none => rw [hb] at hx; cases hx
        | some b =>
          rw [hb] at hx
          cases hx
          cases j with
          | zero =>
            simp at ht
            subst ht
            exact ⟨_, by rw [byteCells, List.getElem?_map, Nat.mul_one, Nat.add_zero, hb]; rfl, .v _ rfl⟩
          | succ j => simp at ht
    · cases hs
  · cases hs
end
end Go.Proofs.YtaolgdpkcbfocaaDoorA
