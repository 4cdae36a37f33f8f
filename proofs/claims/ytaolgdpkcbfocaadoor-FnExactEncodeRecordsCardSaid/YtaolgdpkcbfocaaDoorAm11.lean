/- The calculus, eleventh part: behind a call. -/
import Derived.Test.YtaolgdpkcbfocaaDoorAm10
namespace Go.Proofs.YtaolgdpkcbfocaaDoorA
set_option autoImplicit false
set_option linter.unusedVariables false

section
variable {P : Program} {Γ : Nat → Option Row} {C : Ctx} {Q : Exit → St → Prop} {st : St} {o : Oper} {K : St → Prop} {E Ec : Env} {a : Act} {w w' : World} {m : Bool} {ρ : List Nat} {n0 n1 : Nat}

/-- The caller's view behind the call. -/
def Env.back (E Ec : Env) (ρ : List Nat) (n0 nx : Nat) (size : Nat) : Env :=
  ⟨fun j => if nx ≤ j then Ec.at_ (j - nx + n0) else E.at_ j, fun b o => if b < size ∧ ((E.own b o).bind (fwd ρ)).isNone = true then E.own b o else (Ec.own b o).map (bwd ρ n0 nx)⟩

structure Back (C : Ctx) (st : St) (a : Act) (w w' : World) (E Ec : Env) (m : Bool) (ρ : List Nat) (n0 : Nat) : Prop where
  rel : RelE E C st a w
  fc : FC w (E.call m ρ) Ec w'
  n0 : n0 = ρ.length + 1
  alive : ∀ j, j ∈ ρ → (st.obj j).isSome = true
  nodup : ∀ k j, ρ[k]? = some j → posOf j ρ = some k
  zero : Ec.at_ 0 = none

theorem robj_at {id : Nat} {x : AObj} (h : RObj E w id x) : ∃ B, E.at_ id = some B := by
  cases x with
  | cells xs => obtain ⟨g, b, c, t, h1, _⟩ := h; exact ⟨_, h1⟩
  | arr ty sz xs => rcases h with ⟨h1, _⟩ | ⟨g, cap, cur, h1, _⟩ <;> exact ⟨_, h1⟩
theorem Back.ne (h : Back C st a w w' E Ec m ρ n0) {j : Nat} (hj : j ∈ ρ) : j ≠ 0 := by
  obtain ⟨x, hx⟩ := Option.isSome_iff_exists.1 (h.alive j hj)
  exact obj_pos h.rel hx
theorem Back.live (h : Back C st a w w' E Ec m ρ n0) {j : Nat} (hj : j ∈ ρ) : (∃ B, E.at_ j = some B) ∧ j < st.next := by
  obtain ⟨x, hx⟩ := Option.isSome_iff_exists.1 (h.alive j hj)
  obtain ⟨B, hB⟩ := robj_at (h.rel.objs _ _ hx)
  refine ⟨⟨B, hB⟩, ?_⟩
  rcases Nat.lt_or_ge j st.next with h1 | h1
  · exact h1
  · rw [h.rel.next j h1] at hB; cases hB
theorem fwd_none {j : Nat} (h : j ∉ ρ) : fwd ρ j = none := by
  simp only [fwd]
  cases hp : posOf j ρ with
  | none => rfl
  | some k => exact absurd (List.mem_of_getElem? (posOf_get hp)) h
theorem Back.own (h : Back C st a w w' E Ec m ρ n0) {b o k : Nat} (hk : Ec.own b o = some k) (hk0 : k ≠ 0) : (E.back Ec ρ n0 st.next w.heap.size).own b o = some (bwd ρ n0 st.next k) := by
  simp only [Env.back]
  rw [if_neg, hk]
  · rfl
  · rintro ⟨h1, h2⟩
    have hf : fixd ((E.call m ρ).own b o) := by
      cases hE : E.own b o with
      | none => exact .inl (call_none hE)
      | some j =>
        rw [hE] at h2
        simp only [Option.bind_some, Option.isNone_iff_eq_none] at h2
        exact call_fixd hE h2
    have := h.fc.keep b o h1 hf
    rw [this] at hk
    rcases hf with h3 | h3
    · rw [h3] at hk; cases hk
    · rw [h3] at hk; cases hk; exact hk0 rfl
theorem Back.at_ (h : Back C st a w w' E Ec m ρ n0) {k : Nat} {B : Base} (hB : Ec.at_ k = some B) : (E.back Ec ρ n0 st.next w.heap.size).at_ (bwd ρ n0 st.next k) = some B := by
  have hk0 : k ≠ 0 := by intro e; subst e; rw [h.zero] at hB; cases hB
  have hn := h.n0
  simp only [Env.back, bwd]
  rw [if_neg hk0]
  by_cases hk : k < n0
  · rw [if_pos hk]
    have hj : k - 1 < ρ.length := by omega
    have hg : ρ[k - 1]? = some ρ[k - 1] := List.getElem?_eq_getElem hj
    rw [hg]
    obtain ⟨⟨B', hB'⟩, hlt⟩ := h.live (List.getElem_mem hj)
    show (if st.next ≤ ρ[k - 1] then _ else _) = _
    rw [if_neg (by omega)]
    have h1 : (E.call m ρ).at_ k = some B' := by
      simp only [Env.call]
      rw [if_neg hk0, hg]
      exact hB'
    have := h.fc.at_ k B' h1
    rw [this] at hB
    cases hB
    exact hB'
  · rw [if_neg hk, if_pos (by omega), show k - n0 + st.next - st.next + n0 = k by omega]
    exact hB
theorem Back.step (h : Back C st a w w' E Ec m ρ n0) : Step E (E.back Ec ρ n0 st.next w.heap.size) w w' (fun j => j ∈ ρ) where
  os := h.fc.os
  tape := h.fc.tape
  output := h.fc.output
  size := h.fc.size
  ch0 := fun h0 => h.ne h0 rfl
  at_ := fun id B hB => by
    have hlt : id < st.next := by
      rcases Nat.lt_or_ge id st.next with h1 | h1
      · exact h1
      · rw [h.rel.next id h1] at hB; cases hB
    simp only [Env.back]
    rw [if_neg (by omega)]
    exact hB
  none_ := fun b o hb h0 => by
    simp only [Env.back]
    rw [if_pos ⟨hb, by rw [h0]; rfl⟩]
    exact h0
  some_ := fun b o id hi hn => by
    have hb : b < w.heap.size := by
      rcases Nat.lt_or_ge b w.heap.size with h1 | h1
      · exact h1
      · rw [h.rel.fc.fresh b o h1] at hi; cases hi
    simp only [Env.back]
    rw [if_pos ⟨hb, by rw [hi]; simp [fwd_none hn]⟩]
    exact hi
  cell := fun b o v hc hn => by
    have hb := cell_lt hc
    obtain ⟨cur, ty, fr, h1, h2⟩ := cell_cur hc
    obtain ⟨cur', h3, h4, h5⟩ := (h.fc.blk b hb).2 cur ty fr h1
    have hf : fixd ((E.call m ρ).own b o) := by
      cases hE : E.own b o with
      | none => exact .inl (call_none hE)
      | some j => exact call_fixd hE (fwd_none (hn j hE))
    rw [cur_cell h3, h5 o hf]
    exact h2
  blk := fun b cur ty fr hb => by
    have hb' : b < w.heap.size := (Array.getElem?_eq_some_iff.1 hb).1
    obtain ⟨cur', h3, h4, _⟩ := (h.fc.blk b hb').2 cur ty fr hb
    exact ⟨cur', h3, h4⟩
  same := fun b hb hn => (h.fc.blk b hb).1 fun o => by
    rcases hn o with h1 | h1
    · exact .inl (call_none h1)
    · exact call_fixd h1 (fwd_none fun h0 => h.ne h0 rfl)
  fresh := fun b o hb => by
    simp only [Env.back]
    have hs := h.fc.size
    rw [if_neg (by omega), h.fc.fresh b o hb]
    rfl
  pos := fun b o he => by
    simp only [Env.back] at he
    split at he
    · exact he
    · rename_i hnp
      cases hk : Ec.own b o with
      | none => rw [hk] at he; cases he
      | some k =>
        rw [hk] at he
        simp only [Option.map_some, Option.some.injEq] at he
        have hk0 : k = 0 := by
          simp only [bwd] at he
          split at he
          · assumption
          · split at he
            · rename_i h1 h2
              have hn := h.n0
              rw [List.getElem?_eq_getElem (by omega : k - 1 < ρ.length)] at he
              exact absurd he (h.ne (List.getElem_mem _))
            · have := h.rel.npos; omega
        subst hk0
        have h0 := h.fc.pos b o hk
        have hE : E.own b o = some 0 ∨ ∃ j, E.own b o = some j ∧ fwd ρ j = none := by
          simp only [Env.call] at h0
          cases hE : E.own b o with
          | none => rw [hE] at h0; cases h0
          | some j =>
            rw [hE] at h0
            cases hf : fwd ρ j with
            | none => exact .inr ⟨j, rfl, hf⟩
            | some k => simp only [hf] at h0; cases h0; exact absurd rfl (Nat.ne_of_gt (fwd_get hf).1)
        rcases hE with hE | ⟨j, hE, hf⟩
        · exact hE
        · exfalso
          apply hnp
          refine ⟨?_, by rw [hE]; simp [hf]⟩
          rcases Nat.lt_or_ge b w.heap.size with h1 | h1
          · exact h1
          · rw [h.rel.fc.fresh b o h1] at hE; cases hE

theorem Back.ro (h : Back C st a w w' E Ec false ρ n0) {v : Value} {t : Tree} (hv : RO w' (roE Ec) v t) : RO w' (roE (E.back Ec ρ n0 st.next w.heap.size)) v t := by
  refine hv.mono fun b o v' hb hc => ⟨?_, hc⟩
  have hb' : Ec.own b o = none := hb
  show (E.back Ec ρ n0 st.next w.heap.size).own b o = none
  simp only [Env.back]
  split
  · rename_i hlt
    cases hE : E.own b o with
    | none => rfl
    | some j =>
      have hf : fwd ρ j = none := by have := hlt.2; rw [hE] at this; simpa using this
      have h1 : (E.call false ρ).own b o = some 0 := by simp only [Env.call, hE, hf]; rfl
      have := h.fc.keep b o hlt.1 (.inr h1)
      rw [this, h1] at hb'
      cases hb'
  · rw [hb']; rfl
theorem Back.tree (h : Back C st a w w' E Ec m ρ n0) {v : Value} {t : Tree} (hf : m = true → ∃ u, t = .v u) (hv : RO w' (roE Ec) v t) : RO w' (roE (E.back Ec ρ n0 st.next w.heap.size)) v t := by
  cases m with
  | false => exact h.ro hv
  | true =>
    obtain ⟨u, rfl⟩ := hf rfl
    cases hv with
    | v _ h1 => exact .v _ h1
def bwdO (ρ : List Nat) (n0 nx : Nat) : Nat → Option Nat := fun k => some (bwd ρ n0 nx k)
theorem Back.rc (h : Back C st a w w' E Ec m ρ n0) {v : Value} {x : CV} (hf : m = true → flatCV x) (hx : RC Ec w' v x) : RC (E.back Ec ρ n0 st.next w.heap.size) w' v (renCV (bwdO ρ n0 st.next) x) := by
  cases x with
  | t x => exact h.tree (fun hm => by have := hf hm; cases x with | v u => exact ⟨u, rfl⟩ | sl _ _ => exact this.elim) hx
  | own id lo len => exact hx.imp (fun ⟨h1, h2⟩ => ⟨h.at_ h1, h2⟩) (fun ⟨g, sz, cap, o, h1, h2⟩ => ⟨g, sz, cap, o, h.at_ h1, h2⟩)
  | ptr id off => obtain ⟨g, base, h1, h2⟩ := hx; exact ⟨g, base, h.at_ h1, h2⟩
  | ifp ty id off => obtain ⟨g, base, h1, h2⟩ := hx; exact ⟨g, base, h.at_ h1, h2⟩
  | ep id i j => obtain ⟨g, sz, cap, h1, h2⟩ := hx; exact ⟨g, sz, cap, h.at_ h1, h2⟩
  | rp xs =>
    cases m with
    | true => exact (hf rfl).elim
    | false =>
      obtain ⟨g, o, h1, h2⟩ := hx
      refine ⟨g, o, h1, fun j t ht => ?_⟩
      obtain ⟨h3, u, h4, h5⟩ := h2 j t ht
      refine ⟨?_, u, h4, h.ro h5⟩
      have := h.ro (v := .bool true) (t := .v (.bool true)) (.v _ rfl)
      simp only [Env.back]
      split
      · rename_i hlt
        cases hE : E.own g (o + j) with
        | none => rfl
        | some j' =>
          have hf : fwd ρ j' = none := by have := hlt.2; rw [hE] at this; simpa using this
          have h1 : (E.call false ρ).own g (o + j) = some 0 := by simp only [Env.call, hE, hf]; rfl
          have := h.fc.keep g (o + j) hlt.1 (.inr h1)
          rw [this, h1] at h3
          cases h3
      · rw [h3]; rfl
  | irp ty xs =>
    cases m with
    | true => exact (hf rfl).elim
    | false =>
      obtain ⟨g, o, h1, h2⟩ := hx
      refine ⟨g, o, h1, fun j t ht => ?_⟩
      obtain ⟨h3, u, h4, h5⟩ := h2 j t ht
      refine ⟨?_, u, h4, h.ro h5⟩
      have := h.ro (v := .bool true) (t := .v (.bool true)) (.v _ rfl)
      simp only [Env.back]
      split
      · rename_i hlt
        cases hE : E.own g (o + j) with
        | none => rfl
        | some j' =>
          have hf : fwd ρ j' = none := by have := hlt.2; rw [hE] at this; simpa using this
          have h1 : (E.call false ρ).own g (o + j) = some 0 := by simp only [Env.call, hE, hf]; rfl
          have := h.fc.keep g (o + j) hlt.1 (.inr h1)
          rw [this, h1] at h3
          cases h3
      · rw [h3]; rfl
  | junk => trivial
theorem Back.all (h : Back C st a w w' E Ec m ρ n0) : ∀ {vs : List Value} {xs : List CV}, (m = true → ∀ x, x ∈ xs → flatCV x) → All2 (RC Ec w') vs xs → All2 (RC (E.back Ec ρ n0 st.next w.heap.size) w') vs (xs.map (renCV (bwdO ρ n0 st.next)))
  | [], [], _, _ => trivial
  | _ :: _, x :: xs, hf, k => ⟨h.rc (fun hm => hf hm x List.mem_cons_self) k.1, h.all (fun hm y hy => hf hm y (List.mem_cons_of_mem _ hy)) k.2⟩
  | [], _ :: _, _, k => k.elim
  | _ :: _, [], _, k => k.elim
theorem Back.rt1 (h : Back C st a w w' E Ec m ρ n0) {v : Value} {x : TV} (hf : m = true → match x with | .c x => flatCV x | .agg xs => ∀ x, x ∈ xs → flatCV x | .tup _ => False) (hx : RT1 Ec w' v x) : RT1 (E.back Ec ρ n0 st.next w.heap.size) w' v (renTV1 (bwdO ρ n0 st.next) x) := by
  cases x with
  | c x => exact h.rc hf hx
  | agg xs => obtain ⟨vs, h1, h2⟩ := hx; exact ⟨vs, h1, h.all hf h2⟩
  | tup xs => exact hx.elim
theorem Back.all1 (h : Back C st a w w' E Ec m ρ n0) : ∀ {vs : List Value} {xs : List TV}, (m = true → ∀ y, y ∈ xs → match y with | .c x => flatCV x | .agg xs => ∀ x, x ∈ xs → flatCV x | .tup _ => False) → All2 (RT1 Ec w') vs xs →
    All2 (RT1 (E.back Ec ρ n0 st.next w.heap.size) w') vs (xs.map (renTV1 (bwdO ρ n0 st.next)))
  | [], [], _, _ => trivial
  | _ :: _, x :: xs, hf, k => ⟨h.rt1 (fun hm => hf hm x List.mem_cons_self) k.1, h.all1 (fun hm y hy => hf hm y (List.mem_cons_of_mem _ hy)) k.2⟩
  | [], _ :: _, _, k => k.elim
  | _ :: _, [], _, k => k.elim
theorem Back.rt (h : Back C st a w w' E Ec m ρ n0) {v : Value} {x : TV} (hf : m = true → flatTV x) (hx : RT Ec w' v x) : RT (E.back Ec ρ n0 st.next w.heap.size) w' v (renTV (bwdO ρ n0 st.next) x) := by
  cases x with
  | c x => exact h.rc hf (rtC hx)
  | agg xs => exact h.rt1 (x := .agg xs) hf hx
  | tup xs => obtain ⟨vs, h1, h2⟩ := hx; exact ⟨vs, h1, h.all1 hf h2⟩
theorem Back.robj (h : Back C st a w w' E Ec m ρ n0) {k : Nat} {x : AObj} (hf : m = true → flatObj x) (hx : RObj Ec w' k x) : RObj (E.back Ec ρ n0 st.next w.heap.size) w' (bwd ρ n0 st.next k) (renObj (bwdO ρ n0 st.next) x) := by
  have hk0 : k ≠ 0 := by
    intro e
    subst e
    obtain ⟨B, hB⟩ := robj_at hx
    rw [h.zero] at hB; cases hB
  cases x with
  | cells xs =>
    obtain ⟨g, base, cur, ty, h1, h2, h3, h4⟩ := hx
    refine ⟨g, base, cur, ty, h.at_ h1, h2, by simpa using h3, fun j c hc => ?_⟩
    rw [List.getElem?_map] at hc
    cases hx0 : xs[j]? with
    | none => rw [hx0] at hc; cases hc
    | some c0 =>
      rw [hx0] at hc
      cases hc
      obtain ⟨h5, v, h6, h7, h8⟩ := h4 j c0 hx0
      exact ⟨h.own h5 hk0, v, h6, h7, h.rc (fun hm => hf hm c0 (List.mem_of_getElem? hx0)) h8⟩
  | arr ty sz xs =>
    rcases hx with ⟨h1, h2⟩ | ⟨g, cap, cur, h1, h2, h3, h4, h5, h6, h7, h8⟩
    · exact .inl ⟨h.at_ h1, h2⟩
    · refine .inr ⟨g, cap, cur, h.at_ h1, h2, h3, h4, h5, fun o => h.own (h6 o) hk0, h7, fun i x hx j t ht => ?_⟩
      obtain ⟨v, h9, h10⟩ := h8 i x hx j t ht
      exact ⟨v, h9, h.tree (fun hm => hf hm x (List.mem_of_getElem? hx) t (List.mem_of_getElem? ht)) h10⟩

/-! ### The call -/
def delAll : List Nat → List (Nat × AObj) → List (Nat × AObj)
  | [], l => l
  | j :: ρ, l => delAll ρ (del j l)
theorem look_delAll {i : Nat} : ∀ {ρ : List Nat} {l : List (Nat × AObj)}, look i (delAll ρ l) = if i ∈ ρ then none else look i l
  | [], l => by simp [delAll]
  | j :: ρ, l => by
    simp only [delAll, look_delAll (ρ := ρ), look_del, List.mem_cons]
    by_cases h1 : i ∈ ρ
    · simp [h1]
    · by_cases h2 : i = j <;> simp [h1, h2]
def St.back (st : St) (ρ : List Nat) (objs1 : List (Nat × AObj)) (n0 n1 : Nat) : St :=
  ⟨st.tmps, objs1.map (fun p => (bwd ρ n0 st.next p.1, renObj (bwdO ρ n0 st.next) p.2)) ++ delAll ρ st.objs, st.next + (n1 - n0)⟩
theorem look_append {α : Type} {i : Nat} : ∀ {l l' : List (Nat × α)} {x : α}, look i (l ++ l') = some x → look i l = some x ∨ look i l' = some x
  | [], _, _, h => .inr h
  | (k, y) :: l, l', x, h => by
    simp only [List.cons_append, look] at h ⊢
    split at h
    · rename_i e; rw [if_pos e]; exact .inl h
    · rename_i e; rw [if_neg e]; exact look_append h
theorem look_back {i nx : Nat} : ∀ {l : List (Nat × AObj)} {x : AObj}, look i (l.map fun p => (bwd ρ n0 nx p.1, renObj (bwdO ρ n0 nx) p.2)) = some x → ∃ p, p ∈ l ∧ bwd ρ n0 nx p.1 = i ∧ renObj (bwdO ρ n0 nx) p.2 = x
  | [], _, h => by cases h
  | p :: l, x, h => by
    simp only [List.map_cons, look] at h
    split at h
    · rename_i e; cases h; exact ⟨p, List.mem_cons_self, e.symm, rfl⟩
    · obtain ⟨q, h1, h2⟩ := look_back h
      exact ⟨q, List.mem_cons_of_mem _ h1, h2⟩
/-- Names, each once. -/
def uniq : List (Nat × AObj) → Bool
  | [] => true
  | p :: l => (look p.1 l).isNone && uniq l
theorem look_uniq {p : Nat × AObj} : ∀ {l : List (Nat × AObj)}, uniq l = true → p ∈ l → look p.1 l = some p.2
  | [], _, h => by cases h
  | q :: l, hu, h => by
    simp only [uniq, Bool.and_eq_true, Option.isNone_iff_eq_none] at hu
    simp only [look]
    rcases List.mem_cons.1 h with e | h
    · subst e; rw [if_pos rfl]
    · rw [if_neg, look_uniq hu.2 h]
      intro e
      have := look_uniq hu.2 h
      rw [e, hu.1] at this
      cases this

def nodupB : List Nat → Bool
  | [] => true
  | j :: l => (posOf j l).isNone && nodupB l
theorem nodup_ok : ∀ {l : List Nat}, nodupB l = true → ∀ k j, l[k]? = some j → posOf j l = some k
  | [], _, k, j, h => by simp at h
  | i :: l, hu, k, j, h => by
    simp only [nodupB, Bool.and_eq_true, Option.isNone_iff_eq_none] at hu
    simp only [posOf]
    cases k with
    | zero => simp at h; subst h; rw [if_pos rfl]
    | succ k =>
      have h1 := nodup_ok hu.2 k j (by simpa using h)
      rw [if_neg, h1]
      · rfl
      · intro e; subst e; rw [hu.1] at h1; cases h1

theorem amOp_enter (hd : dstOk C.n o = true) (m : Bool) (ρ : List Nat) {f : FuncId} {tvs : List TV} {args : List TV} {objs0 objs1 : List (Nat × AObj)} {n0 n1 : Nat} {res : TV}
    (htc0 : TC P f args objs0 n0 res objs1 n1)
    (hent : ∀ {E : Env} {a : Act} {w : World}, RelE E C st a w → ∃ vs : List Value, All2 (RT E w) vs tvs ∧ (execOp a.eval o).run P w = (callFunc f vs.toArray).run P w)
    (hargs : allSome (tvs.map fun x => convTV m st ρ x) = some args) (hn0 : n0 = ρ.length + 1) (hnd : nodupB ρ = true) (halive : ∀ j, j ∈ ρ → (st.obj j).isSome = true)
    (hobj : ∀ k x, look k objs0 = some x → ∃ j y, fwd ρ j = some k ∧ st.obj j = some y ∧ convObj m st ρ y = some x) (hobj2 : ∀ k, 0 < k → k < n0 → (look k objs0).isSome = true) (hu : uniq objs1 = true)
    (hflat : m = true → flatTV res ∧ ∀ p, p ∈ objs1 → flatObj p.2) (hK : K ((st.back ρ objs1 n0 n1).put o.dst (renTV (bwdO ρ n0 st.next) res))) : amOp P C o Q K st := by
  obtain ⟨⟨fn, hf, hname, hb⟩, htc⟩ := htc0
  intro a w ⟨E, hr⟩ next hn
  obtain ⟨vs, hvt, hex⟩ := hent hr
  have hall : All2 (RT (E.call m ρ) w) vs args := by
    obtain ⟨h1, h2⟩ := allSome_get hargs
    refine All2.mk (by rw [hvt.length, h1]) fun i v y hv hy => ?_
    obtain ⟨x, h3, h4⟩ := h2 i y hy
    obtain ⟨v', h5, h6⟩ := hvt.get h3
    rw [hv] at h5
    cases h5
    exact conv_rt hr h6 h4
  have hrun : (execOp a.eval o).run P w = .ok (.enter f vs.toArray) w := by
    have h1 : fn.name ≠ "runtime.NumGoroutine" := by simpa using hname
    obtain ⟨c, hc⟩ := Option.isSome_iff_exists.1 hb
    rw [hex]
    simp [callFunc, hf, h1, hc]
  unfold Oper.wp
  rw [hrun, Oper.upon_enter]
  have hat0 : (E.call m ρ).at_ 0 = none := rfl
  refine (htc (E.call m ρ) w vs hall (fun k x hx => ?_) (fun id hid => ?_) hat0 (fun b o hb => call_none (hr.fc.fresh b o hb)) (fun b o k hk => ?_) (Pre.later hr.fc fun b o h => call_none h)).mono ?_
  · obtain ⟨j, y, h1, h2, h3⟩ := hobj k x hx
    exact conv_obj hr h1 (hr.objs _ _ h2) h3
  · simp only [Env.call]
    split
    · rfl
    · rw [List.getElem?_eq_none (by omega)]; rfl
  · simp only [Env.call] at hk
    cases hE : E.own b o with
    | none => rw [hE] at hk; cases hk
    | some j =>
      rw [hE] at hk
      cases hf' : fwd ρ j with
      | none =>
        simp only [hf'] at hk
        split at hk
        · cases hk
        · cases hk; exact .inl rfl
      | some k' =>
        simp only [hf'] at hk
        cases hk
        obtain ⟨h1, h2⟩ := fwd_get hf'
        have : k - 1 < ρ.length := (List.getElem?_eq_some_iff.1 h2).1
        exact .inr (hobj2 _ h1 (by omega))
  · rintro e w' ⟨v, Ec, rfl, hres, hfc, hob1, hnx, hz⟩
    have hback : Back C st a w w' E Ec m ρ n0 := ⟨hr, hfc, hn0, halive, nodup_ok hnd, hz⟩
    have hst := hback.step
    refine hn _ _ ⟨_, hK, E.back Ec ρ n0 st.next w.heap.size, RelE.put (st := st.back ρ objs1 n0 n1) (hr.step hst rfl (fun id hid => ?_) ?_ ?_ fun id x hx => ?_) (hback.rt (fun hm => (hflat hm).1) hres) (dstOk_lt hd)⟩
    · have hid' : st.next + (n1 - n0) ≤ id := hid
      simp only [Env.back]
      rw [if_pos (by omega)]
      exact hnx _ (by omega)
    · simp only [Env.back]
      rw [if_neg (by have := hr.npos; omega)]
      exact hr.zero
    · show 0 < st.next + (n1 - n0)
      have := hr.npos; omega
    · rcases look_append (show look id _ = some x from hx) with h1 | h1
      · right
        obtain ⟨p, h2, h3, h4⟩ := look_back h1
        subst h3; subst h4
        exact hback.robj (fun hm => (hflat hm).2 p h2) (hob1 _ _ (look_uniq hu h2))
      · left
        rw [look_delAll] at h1
        split at h1
        · cases h1
        · rename_i h2; exact ⟨h1, h2⟩
theorem evals_ok (hr : RelE E C st a w) : ∀ l : List Operand, All2 (RT E w) (l.map a.eval) (l.map st.eval)
  | [] => trivial
  | x :: l => ⟨hr.eval x, evals_ok hr l⟩
theorem amOp_call (hd : dstOk C.n o = true) (m : Bool) (ρ : List Nat) {f : FuncId} {xs : Array Operand} {ts : Array TypeId} {args : List TV} {objs0 objs1 : List (Nat × AObj)} {n0 n1 : Nat} {res : TV} (ho : o.op = .call { callee := .value (.func f), args := xs, argTypes := ts })
    (htc0 : TC P f args objs0 n0 res objs1 n1)
    (hargs : allSome (xs.toList.map fun x => convTV m st ρ (st.eval x)) = some args) (hn0 : n0 = ρ.length + 1) (hnd : nodupB ρ = true) (halive : ∀ j, j ∈ ρ → (st.obj j).isSome = true)
    (hobj : ∀ k x, look k objs0 = some x → ∃ j y, fwd ρ j = some k ∧ st.obj j = some y ∧ convObj m st ρ y = some x) (hobj2 : ∀ k, 0 < k → k < n0 → (look k objs0).isSome = true) (hu : uniq objs1 = true)
    (hflat : m = true → flatTV res ∧ ∀ p, p ∈ objs1 → flatObj p.2) (hK : K ((st.back ρ objs1 n0 n1).put o.dst (renTV (bwdO ρ n0 st.next) res))) : amOp P C o Q K st := by
  refine amOp_enter hd m ρ (tvs := xs.toList.map st.eval) htc0 (fun {E a w} hr => ⟨xs.toList.map a.eval, evals_ok hr _, ?_⟩) (by simpa [Function.comp_def] using hargs) hn0 hnd halive hobj hobj2 hu hflat hK
  have hvs : xs.map a.eval = (xs.toList.map a.eval).toArray := by apply Array.toList_inj.1; simp
  unfold execOp
  simp [ho, resolve, Deferred.ofValue, invoke, Act.eval, hvs]
/-- The method that a value of a pointer type has by this name. -/
def MthOk (P : Program) (ty : Nat) (name : String) (f : FuncId) : Prop :=
  ∃ e i m, P.underlying ty = some (.pointer e) ∧ P.info? ty = some i ∧ i.methods.find? (·.name == name) = some m ∧ m.path.toList = [] ∧ m.func = some (f, true)
theorem run_method {ty : Nat} {name : String} {f : FuncId} (h : MthOk P ty name f) (n : Nat) (v : Value) (w : World) : (method (n + 1) ty v name).run P w = .ok (f, v) w := by
  obtain ⟨e, i, m, h1, h2, h3, h4, h5⟩ := h
  have h6 : (typeInfo ty).run P w = .ok i w := by simp [typeInfo, h2]
  have h7 : ∀ x, (receiverAt ty (.val v) true x).run P w = .ok v w := fun x => by simp [receiverAt, run_underlying h1, Place.get]
  rw [method, Sem.run_bind, h6, Result.andThen_ok]
  simp only [h3, h4, h5, follow, Sem.run_bind, Sem.run_pure, Result.andThen_ok]
  split <;> simp [h7]
theorem amOp_inv (hd : dstOk C.n o = true) (ρ : List Nat) {f : FuncId} {recv : Operand} {name : String} {ty id off : Nat} {xs : Array Operand} {ts : Array TypeId} {args : List TV} {objs0 objs1 : List (Nat × AObj)} {n0 n1 : Nat} {res : TV} (ho : o.op = .call { callee := .invoke recv name, args := xs, argTypes := ts })
    (hm : MthOk P ty name f) (hrecv : st.eval recv = .c (.ifp ty id off)) (htc0 : TC P f args objs0 n0 res objs1 n1)
    (hargs : allSome ((.c (.ptr id off) :: xs.toList.map st.eval).map fun x => convTV false st ρ x) = some args) (hn0 : n0 = ρ.length + 1) (hnd : nodupB ρ = true) (halive : ∀ j, j ∈ ρ → (st.obj j).isSome = true)
    (hobj : ∀ k x, look k objs0 = some x → ∃ j y, fwd ρ j = some k ∧ st.obj j = some y ∧ convObj false st ρ y = some x) (hobj2 : ∀ k, 0 < k → k < n0 → (look k objs0).isSome = true) (hu : uniq objs1 = true)
    (hK : K ((st.back ρ objs1 n0 n1).put o.dst (renTV (bwdO ρ n0 st.next) res))) : amOp P C o Q K st := by
  refine amOp_enter hd false ρ (tvs := .c (.ptr id off) :: xs.toList.map st.eval) htc0 (fun {E a w} hr => ?_) hargs hn0 hnd halive hobj hobj2 hu (fun h => by cases h) hK
  have h1 := hr.eval recv
  rw [hrecv] at h1
  obtain ⟨g, base, h2, h3⟩ := rtC h1
  refine ⟨.pointer (some ⟨g, base + off, none⟩) :: xs.toList.map a.eval, ⟨⟨g, base, h2, rfl⟩, evals_ok hr _⟩, ?_⟩
  have hvs : xs.map a.eval = (xs.toList.map a.eval).toArray := by apply Array.toList_inj.1; simp
  have hmm : (method (P.types.size + Made.depth) ty (.pointer (some ⟨g, base + off, none⟩)) name).run P w = .ok (f, .pointer (some ⟨g, base + off, none⟩)) w := by
    have : P.types.size + Made.depth = (P.types.size + Made.depth - 1) + 1 := by
      have : 0 < Made.depth := by decide
      omega
    rw [this]
    exact run_method hm _ _ w
  unfold execOp
  have htk : List.take xs.size (List.map a.eval xs.toList) = List.map a.eval xs.toList := List.take_of_length_le (by simp)
  simp [ho, resolve, invoke, h3, callMethod, hmm, hvs, htk]
theorem amOp_invR (hd : dstOk C.n o = true) (ρ : List Nat) {f : FuncId} {recv : Operand} {name : String} {ty : Nat} {tr : List Tree} {xs : Array Operand} {ts : Array TypeId} {args : List TV} {objs0 objs1 : List (Nat × AObj)} {n0 n1 : Nat} {res : TV} (ho : o.op = .call { callee := .invoke recv name, args := xs, argTypes := ts })
    (hm : MthOk P ty name f) (hrecv : st.eval recv = .c (.irp ty tr)) (htc0 : TC P f args objs0 n0 res objs1 n1)
    (hargs : allSome ((.c (.rp tr) :: xs.toList.map st.eval).map fun x => convTV false st ρ x) = some args) (hn0 : n0 = ρ.length + 1) (hnd : nodupB ρ = true) (halive : ∀ j, j ∈ ρ → (st.obj j).isSome = true)
    (hobj : ∀ k x, look k objs0 = some x → ∃ j y, fwd ρ j = some k ∧ st.obj j = some y ∧ convObj false st ρ y = some x) (hobj2 : ∀ k, 0 < k → k < n0 → (look k objs0).isSome = true) (hu : uniq objs1 = true)
    (hK : K ((st.back ρ objs1 n0 n1).put o.dst (renTV (bwdO ρ n0 st.next) res))) : amOp P C o Q K st := by
  refine amOp_enter hd false ρ (tvs := .c (.rp tr) :: xs.toList.map st.eval) htc0 (fun {E a w} hr => ?_) hargs hn0 hnd halive hobj hobj2 hu (fun h => by cases h) hK
  have h1 := hr.eval recv
  rw [hrecv] at h1
  obtain ⟨g, base, h3, h2⟩ := rtC h1
  refine ⟨.pointer (some ⟨g, base, none⟩) :: xs.toList.map a.eval, ⟨⟨g, base, rfl, h2⟩, evals_ok hr _⟩, ?_⟩
  have hvs : xs.map a.eval = (xs.toList.map a.eval).toArray := by apply Array.toList_inj.1; simp
  have hmm : (method (P.types.size + Made.depth) ty (.pointer (some ⟨g, base, none⟩)) name).run P w = .ok (f, .pointer (some ⟨g, base, none⟩)) w := by
    have : P.types.size + Made.depth = (P.types.size + Made.depth - 1) + 1 := by
      have : 0 < Made.depth := by decide
      omega
    rw [this]
    exact run_method hm _ _ w
  unfold execOp
  have htk : List.take xs.size (List.map a.eval xs.toList) = List.map a.eval xs.toList := List.take_of_length_le (by simp)
  simp [ho, resolve, invoke, h3, callMethod, hmm, hvs, htk]
/-- A call that is handed no block and hands back none. -/
theorem amOp_q (hd : dstOk C.n o = true) (m : Bool) {f : FuncId} {xs : Array Operand} {ts : Array TypeId} {args : List TV} {res : TV} (ho : o.op = .call { callee := .value (.func f), args := xs, argTypes := ts }) (htc : TC P f args [] 1 res [] 1)
    (hargs : allSome (xs.toList.map fun x => convTV m st [] (st.eval x)) = some args) (hflat : m = true → flatTV res) (hres : ∀ f, renTV f res = res) (hK : K (st.put o.dst res)) : amOp P C o Q K st :=
  amOp_call hd m [] ho htc hargs rfl rfl (fun j hj => by cases hj) (fun k x h => by cases h) (fun k h1 h2 => by omega) rfl (fun hm => ⟨hflat hm, fun p hp => by cases hp⟩) (by rw [hres]; exact hK)
end
end Go.Proofs.YtaolgdpkcbfocaaDoorA
