/- The calculus, tenth part: a call by what it answers. -/
import Derived.Test.YtaolgdpkcbfocaaDoorAm9
namespace Go.Proofs.YtaolgdpkcbfocaaDoorA
set_option autoImplicit false
set_option linter.unusedVariables false

/-- The place of a name in a list. -/
def posOf (j : Nat) : List Nat → Option Nat
  | [] => none
  | i :: l => if j = i then some 0 else (posOf j l).map (· + 1)
theorem posOf_get {j k : Nat} : ∀ {l : List Nat}, posOf j l = some k → l[k]? = some j
  | [], h => by cases h
  | i :: l, h => by
    simp only [posOf] at h
    split at h
    · rename_i e; subst e; cases h; rfl
    · cases hp : posOf j l with
      | none => rw [hp] at h; cases h
      | some q => rw [hp] at h; cases h; simpa using posOf_get hp
theorem posOf_mem {j : Nat} : ∀ {l : List Nat}, posOf j l = none → j ∉ l
  | [], _ => by simp
  | i :: l, h => by
    simp only [posOf] at h
    split at h
    · cases h
    · rename_i e
      cases hp : posOf j l with
      | none => simp only [List.mem_cons, not_or]; exact ⟨e, posOf_mem hp⟩
      | some q => rw [hp] at h; cases h
/-- A caller's name at the callee. -/
def fwd (ρ : List Nat) (j : Nat) : Option Nat := (posOf j ρ).map (· + 1)
/-- A callee's name at the caller. -/
def bwd (ρ : List Nat) (n0 nx k : Nat) : Nat := if k = 0 then 0 else if k < n0 then (ρ[k - 1]?).getD 0 else k - n0 + nx

/-- What a caller's cell is told as to the callee; m: rows of the caller's own that are not handed over may be read (then nothing that is read may come back). -/
def convCV (m : Bool) (st : St) (ρ : List Nat) : CV → Option CV
  | .t x => some (.t x)
  | .own id lo len => match fwd ρ id with
    | some k => some (.own k lo len)
    | none => if m = true then (match st.obj id with
      | some (.arr _ sz xs) => if lo + len ≤ xs.length then some (.t (.sl sz ((xs.drop lo).take len))) else none
      | _ => none) else none
  | .ptr id off => (fwd ρ id).map fun k => .ptr k off
  | .ifp ty id off => (fwd ρ id).map fun k => .ifp ty k off
  | .rp xs => some (.rp xs)
  | .irp ty xs => some (.irp ty xs)
  | .ep _ _ _ => none
  | .junk => some .junk
def allSome {α : Type} : List (Option α) → Option (List α)
  | [] => some []
  | none :: _ => none
  | some x :: l => (allSome l).map (x :: ·)
def convTV (m : Bool) (st : St) (ρ : List Nat) : TV → Option TV
  | .c x => (convCV m st ρ x).map .c
  | .agg xs => (allSome (xs.map (convCV m st ρ))).map .agg
  | .tup _ => none
def convObj (m : Bool) (st : St) (ρ : List Nat) : AObj → Option AObj
  | .cells xs => (allSome (xs.map (convCV m st ρ))).map .cells
  | .arr ty sz xs => some (.arr ty sz xs)
/-- Nothing that is read. -/
def flatCV : CV → Prop
  | .t (.v _) | .own _ _ _ | .ptr _ _ | .ifp _ _ _ | .ep _ _ _ | .junk => True
  | _ => False
def flatTV : TV → Prop
  | .c x => flatCV x
  | .agg xs => ∀ x, x ∈ xs → flatCV x
  | .tup xs => ∀ y, y ∈ xs → match y with | .c x => flatCV x | .agg xs => ∀ x, x ∈ xs → flatCV x | .tup _ => False
def flatObj : AObj → Prop
  | .cells xs => ∀ x, x ∈ xs → flatCV x
  | .arr _ _ xs => ∀ x, x ∈ xs → ∀ t, t ∈ x → ∃ v, t = .v v

theorem allSome_get {α β : Type} {f : α → Option β} : ∀ {l : List α} {l' : List β}, allSome (l.map f) = some l' → l.length = l'.length ∧ ∀ (j : Nat) (y : β), l'[j]? = some y → ∃ x, l[j]? = some x ∧ f x = some y
  | [], l', h => by cases h; exact ⟨rfl, fun j y hy => by simp at hy⟩
  | x :: l, l', h => by
    simp only [List.map_cons] at h
    cases hx : f x with
    | none => rw [hx] at h; cases h
    | some y =>
      rw [hx] at h
      simp only [allSome] at h
      cases hr : allSome (l.map f) with
      | none => rw [hr] at h; cases h
      | some r =>
        rw [hr] at h; cases h
        obtain ⟨h1, h2⟩ := allSome_get hr
        refine ⟨by simp [h1], fun j z hz => ?_⟩
        cases j with
        | zero => simp at hz; subst hz; exact ⟨x, rfl, hx⟩
        | succ j => simpa using h2 j z (by simpa using hz)

section
variable {P : Program} {Γ : Nat → Option Row} {C : Ctx} {Q : Exit → St → Prop} {st : St} {o : Oper} {K : St → Prop} {E : Env} {a : Act} {w : World}

/-- The callee's view. -/
def Env.call (E : Env) (m : Bool) (ρ : List Nat) : Env :=
  ⟨fun k => if k = 0 then none else (ρ[k - 1]?).bind E.at_, fun b o => match E.own b o with | none => none | some j => match fwd ρ j with | some k => some k | none => if m = true then none else some 0⟩

variable {m : Bool} {ρ : List Nat}
theorem call_none {b o : Nat} (h : E.own b o = none) : (E.call m ρ).own b o = none := by simp only [Env.call, h]
theorem fwd_get {j k : Nat} (h : fwd ρ j = some k) : 0 < k ∧ ρ[k - 1]? = some j := by
  simp only [fwd] at h
  cases hp : posOf j ρ with
  | none => rw [hp] at h; cases h
  | some q => rw [hp] at h; cases h; exact ⟨Nat.succ_pos _, by simpa using posOf_get hp⟩
theorem call_at {j k : Nat} (h : fwd ρ j = some k) : (E.call m ρ).at_ k = E.at_ j := by
  obtain ⟨h1, h2⟩ := fwd_get h
  simp only [Env.call]
  rw [if_neg (by omega), h2]
  rfl
theorem call_own {b o j k : Nat} (h : E.own b o = some j) (hf : fwd ρ j = some k) : (E.call m ρ).own b o = some k := by simp only [Env.call, h, hf]
theorem call_fixd {b o j : Nat} (h : E.own b o = some j) (hf : fwd ρ j = none) : fixd ((E.call m ρ).own b o) := by
  simp only [Env.call, h, hf]
  cases m
  · exact .inr rfl
  · exact .inl rfl
theorem call_ro {v : Value} {t : Tree} (h : RO w (roE E) v t) : RO w (roE (E.call m ρ)) v t := h.mono fun b o v hb hc => ⟨call_none hb, hc⟩

theorem conv_rc (hr : RelE E C st a w) {v : Value} {x y : CV} (h : RC E w v x) (hc : convCV m st ρ x = some y) : RC (E.call m ρ) w v y := by
  cases x with
  | t x => cases hc; exact call_ro h
  | own id lo len =>
    simp only [convCV] at hc
    split at hc
    · rename_i k hk
      cases hc
      exact h.imp (fun ⟨h1, h2⟩ => ⟨by rw [call_at hk]; exact h1, h2⟩) (fun ⟨g, sz, cap, o, h1, h2⟩ => ⟨g, sz, cap, o, by rw [call_at hk]; exact h1, h2⟩)
    · rename_i hk
      split at hc
      · rename_i hm
        split at hc
        · rename_i ty sz xs hob
          split at hc
          · rename_i hle
            cases hc
            have hlen : ((xs.drop lo).take len).length = len := by rw [List.length_take, List.length_drop]; omega
            have hro := hr.objs _ _ hob
            rcases h with ⟨h2, h3, h4, h5⟩ | ⟨g, sz', cap, of, h2, h3, h4, h5⟩
            · subst h5; subst h3
              simp only [List.take_zero]
              exact RO.sl (g := 0) (off := 0) (f := fun _ _ => undef) none 0 sz [] (Nat.zero_le _) (Nat.zero_le _) (fun x hx => by cases hx) (fun h => absurd rfl h) (fun i j hi => by simp at hi) (fun i x hx => by simp at hx)
            · have hsz : sz' = sz := by
                rcases hro with ⟨h9, _⟩ | ⟨g', cap', cur, h9, _⟩
                · rw [h2] at h9; cases h9
                · rw [h2] at h9; cases h9; rfl
              subst hsz
              obtain ⟨cur, h9, h10, h11, h12, h13, vs, h14, h15⟩ := arr_flat hro h2
              have hfl := (h14.drop lo).take len
              subst h3
              generalize hys : (xs.drop lo).take len = ys at hfl hlen
              generalize hus : (vs.drop (lo * sz')).take (len * sz') = us at hfl
              have hread : ∀ i j, i < ys.length → j < sz' → w.cell? ⟨g, lo * sz' + i * sz' + j, none⟩ = us[i * sz' + j]? ∧ us[i * sz' + j]?.isSome = true := fun i j hi hj => by
                have hlt : i * sz' + j < us.length := by rw [hfl.len]; exact idx_lt hi hj
                have hu : us[i * sz' + j]? = vs[lo * sz' + (i * sz' + j)]? := by
                  rw [← hus, List.getElem?_take, if_pos (by rw [← hlen]; exact idx_lt hi hj), List.getElem?_drop]
                have h16 := h15 _ us[i * sz' + j] (by rw [← hu]; exact List.getElem?_eq_getElem hlt)
                rw [List.getElem?_eq_getElem hlt]
                rw [Nat.zero_add, ← Nat.add_assoc] at h16
                exact ⟨h16, rfl⟩
              have hlen' : len = ys.length := hlen.symm
              subst hlen'
              have hown : ∀ o, (E.call m ρ).own g o = none := fun o => by simp only [Env.call, h13 o, hk, hm, if_true]
              refine RO.sl (g := g) (off := lo * sz') (f := fun i j => (us[i * sz' + j]?).getD undef) _ _ _ _ (by omega) (Nat.le_trans (by omega) h12) hfl.row (fun hne => ?_) (fun i j hi hj => ⟨hown _, ?_⟩) (fun i x hx j t ht => ?_)
              · have : 0 < ys.length := by
                  cases ys with
                  | nil => exact absurd rfl hne
                  | cons _ _ => simp
                rw [h5 (by omega)]
              · obtain ⟨h16, h17⟩ := hread i j hi hj
                obtain ⟨u, hu⟩ := Option.isSome_iff_exists.1 h17
                rw [h16, hu]
                rfl
              · obtain ⟨u, h16, h17⟩ := hfl.ro i x hx j t ht
                rw [h16]
                exact call_ro h17
          · cases hc
        · cases hc
      · cases hc
  | ptr id off =>
    simp only [convCV] at hc
    cases hk : fwd ρ id with
    | none => rw [hk] at hc; cases hc
    | some k =>
      rw [hk] at hc; cases hc
      obtain ⟨g, base, h1, h2⟩ := h
      exact ⟨g, base, by rw [call_at hk]; exact h1, h2⟩
  | ifp ty id off =>
    simp only [convCV] at hc
    cases hk : fwd ρ id with
    | none => rw [hk] at hc; cases hc
    | some k =>
      rw [hk] at hc; cases hc
      obtain ⟨g, base, h1, h2⟩ := h
      exact ⟨g, base, by rw [call_at hk]; exact h1, h2⟩
  | ep id i j => cases hc
  | rp xs =>
    cases hc
    obtain ⟨g, o, h1, h2⟩ := h
    exact ⟨g, o, h1, fun j t ht => let ⟨h3, u, h4, h5⟩ := h2 j t ht; ⟨call_none h3, u, h4, call_ro h5⟩⟩
  | irp ty xs =>
    cases hc
    obtain ⟨g, o, h1, h2⟩ := h
    exact ⟨g, o, h1, fun j t ht => let ⟨h3, u, h4, h5⟩ := h2 j t ht; ⟨call_none h3, u, h4, call_ro h5⟩⟩
  | junk => cases hc; trivial
theorem conv_all (hr : RelE E C st a w) {vs : List Value} {xs ys : List CV} (h : All2 (RC E w) vs xs) (hc : allSome (xs.map (convCV m st ρ)) = some ys) : All2 (RC (E.call m ρ) w) vs ys := by
  obtain ⟨h1, h2⟩ := allSome_get hc
  refine All2.mk (by rw [h.length, h1]) fun i v y hv hy => ?_
  obtain ⟨x, h3, h4⟩ := h2 i y hy
  obtain ⟨v', h5, h6⟩ := h.get h3
  rw [h5] at hv; cases hv
  exact conv_rc hr h6 h4
theorem conv_rt (hr : RelE E C st a w) {v : Value} {x y : TV} (h : RT E w v x) (hc : convTV m st ρ x = some y) : RT (E.call m ρ) w v y := by
  cases x with
  | c x =>
    simp only [convTV] at hc
    cases hx : convCV m st ρ x with
    | none => rw [hx] at hc; cases hc
    | some z => rw [hx] at hc; cases hc; exact conv_rc hr (rtC h) hx
  | agg xs =>
    simp only [convTV] at hc
    cases hx : allSome (xs.map (convCV m st ρ)) with
    | none => rw [hx] at hc; cases hc
    | some z =>
      rw [hx] at hc; cases hc
      obtain ⟨vs, h1, h2⟩ := rtA h
      exact ⟨vs, h1, conv_all hr h2 hx⟩
  | tup xs => cases hc
theorem conv_obj (hr : RelE E C st a w) {j k : Nat} {x y : AObj} (hk : fwd ρ j = some k) (h : RObj E w j x) (hc : convObj m st ρ x = some y) : RObj (E.call m ρ) w k y := by
  cases x with
  | cells xs =>
    simp only [convObj] at hc
    cases hx : allSome (xs.map (convCV m st ρ)) with
    | none => rw [hx] at hc; cases hc
    | some z =>
      rw [hx] at hc; cases hc
      obtain ⟨g, base, cur, ty, h1, h2, h3, h4⟩ := h
      obtain ⟨h5, h6⟩ := allSome_get hx
      refine ⟨g, base, cur, ty, by rw [call_at hk]; exact h1, h2, by omega, fun i c hc => ?_⟩
      obtain ⟨c0, h7, h8⟩ := h6 i c hc
      obtain ⟨h9, v, h10, h11, h12⟩ := h4 i c0 h7
      exact ⟨call_own h9 hk, v, h10, h11, conv_rc hr h12 h8⟩
  | arr ty sz xs =>
    cases hc
    rcases h with ⟨h1, h2⟩ | ⟨g, cap, cur, h1, h2, h3, h4, h5, h6, h7, h8⟩
    · exact .inl ⟨by rw [call_at hk]; exact h1, h2⟩
    · refine .inr ⟨g, cap, cur, by rw [call_at hk]; exact h1, h2, h3, h4, h5, fun o => call_own (h6 o) hk, h7, fun i x hx j t ht => ?_⟩
      obtain ⟨v, h9, h10⟩ := h8 i x hx j t ht
      exact ⟨v, h9, call_ro h10⟩
end
end Go.Proofs.YtaolgdpkcbfocaaDoorA
