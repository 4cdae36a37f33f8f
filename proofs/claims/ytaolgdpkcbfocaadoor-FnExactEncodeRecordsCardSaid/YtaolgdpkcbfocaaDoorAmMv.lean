/- The calculus: a block takes a new name. -/
import Derived.Test.YtaolgdpkcbfocaaDoorAm9
namespace Go.Proofs.YtaolgdpkcbfocaaDoorA
set_option autoImplicit false
set_option linter.unusedVariables false
def mvN (id nx : Nat) : Nat → Option Nat := fun j => if j = id then some nx else some j
def mvT (f : Nat → Option Nat) : List (Nat × TV) → List (Nat × TV)
  | [] => []
  | (t, x) :: l => (t, renTV f x) :: mvT f l
def mvO (id nx : Nat) (f : Nat → Option Nat) : List (Nat × AObj) → List (Nat × AObj)
  | [] => []
  | (k, x) :: l => (if k = id then nx else k, renObj f x) :: mvO id nx f l
def St.mv (st : St) (id : Nat) : St := ⟨mvT (mvN id st.next) st.tmps, mvO id st.next (mvN id st.next) st.objs, st.next + 1⟩
section
variable {P : Program} {C : Ctx} {Q : Exit → St → Prop} {st : St} {E : Env} {a : Act} {w : World}
theorem look_mvT {f : Nat → Option Nat} {t : Nat} {x : TV} : ∀ {l : List (Nat × TV)}, look t (mvT f l) = some x → ∃ y, look t l = some y ∧ x = renTV f y
  | [], h => by cases h
  | (s, y) :: l, h => by
    simp only [mvT, look] at h ⊢
    split at h
    · rename_i e; cases h; exact ⟨y, by rw [if_pos e], rfl⟩
    · rename_i e
      rw [if_neg e]
      exact look_mvT h
theorem look_key {α : Type} {p : Nat × α} : ∀ {l : List (Nat × α)}, p ∈ l → (look p.1 l).isSome = true
  | [], h => by cases h
  | (k, y) :: l, h => by
    simp only [look]
    split
    · rfl
    · rename_i e
      rcases List.mem_cons.1 h with h | h
      · subst h; exact absurd rfl e
      · exact look_key h
theorem look_mvO {f : Nat → Option Nat} {id nx j : Nat} {x : AObj} : ∀ {l : List (Nat × AObj)}, (∀ p, p ∈ l → p.1 < nx) → look j (mvO id nx f l) = some x → (j = nx ∧ ∃ y, look id l = some y ∧ x = renObj f y) ∨ (j ≠ id ∧ j < nx ∧ ∃ y, look j l = some y ∧ x = renObj f y)
  | [], _, h => by cases h
  | (k, y) :: l, hl, h => by
    have hk : k < nx := hl (k, y) List.mem_cons_self
    simp only [mvO, look] at h
    by_cases hki : k = id
    · subst hki
      rw [if_pos rfl] at h
      split at h
      · rename_i e; cases h; exact .inl ⟨e, y, by simp [look], rfl⟩
      · rename_i e
        rcases look_mvO (fun p hp => hl p (List.mem_cons_of_mem _ hp)) h with ⟨h1, _⟩ | ⟨h1, h2, z, h3, h4⟩
        · exact absurd h1 e
        · exact .inr ⟨h1, h2, z, by simp only [look]; rw [if_neg h1]; exact h3, h4⟩
    · rw [if_neg hki] at h
      split at h
      · rename_i e; subst e; cases h; exact .inr ⟨hki, hk, y, by simp [look], rfl⟩
      · rename_i e
        rcases look_mvO (fun p hp => hl p (List.mem_cons_of_mem _ hp)) h with ⟨h1, z, h3, h4⟩ | ⟨h1, h2, z, h3, h4⟩
        · exact .inl ⟨h1, z, by simp only [look]; rw [if_neg (fun e => hki e.symm)]; exact h3, h4⟩
        · exact .inr ⟨h1, h2, z, by simp only [look]; rw [if_neg e]; exact h3, h4⟩
theorem RelE.mv (h : RelE E C st a w) {id : Nat} (hid : (st.obj id).isSome = true) : ∃ E', RelE E' C (st.mv id) a w := by
  obtain ⟨ob, hob⟩ := Option.isSome_iff_exists.1 hid
  have hne : id ≠ 0 := obj_pos h hob
  have hlive : ∀ k y, st.obj k = some y → ∃ B, E.at_ k = some B := fun k y hy => by
    have := h.objs _ _ hy
    cases y with
    | cells xs => obtain ⟨g, b, c, t, h1, _⟩ := this; exact ⟨_, h1⟩
    | arr ty sz xs => rcases this with ⟨h1, _⟩ | ⟨g, cap, cur, h1, _⟩ <;> exact ⟨_, h1⟩
  have hlt : ∀ k B, E.at_ k = some B → k < st.next := fun k B hB => by
    rcases Nat.lt_or_ge k st.next with h1 | h1
    · exact h1
    · rw [h.next k h1] at hB; cases hB
  have hkeys : ∀ p, p ∈ st.objs → p.1 < st.next := fun p hp => by
    obtain ⟨y, hy⟩ := Option.isSome_iff_exists.1 (look_key hp)
    obtain ⟨B, hB⟩ := hlive _ _ hy
    exact hlt _ _ hB
  have hnp := h.npos
  let E' : Env := ⟨fun k => if k = st.next then E.at_ id else E.at_ k, fun b o => if E.own b o = some id then some st.next else E.own b o⟩
  have hnone : ∀ b o, E.own b o = none → E'.own b o = none := fun b o h0 => by
    show (if E.own b o = some id then _ else _) = _
    rw [if_neg (by rw [h0]; simp), h0]
  have hren : Ren (mvN id st.next) E E' w w := ⟨fun v t hv => hv.mono fun b o v' hb hc => ⟨hnone _ _ hb, hc⟩, fun g o v hg hc => ⟨hnone _ _ hg, hc⟩, fun i k B hi hB => by
    unfold mvN at hi
    show (if k = st.next then E.at_ id else E.at_ k) = some B
    split at hi
    · rename_i e; subst e; cases hi; rw [if_pos rfl]; exact hB
    · cases hi
      rw [if_neg (by have := hlt _ _ hB; omega)]
      exact hB⟩
  have hobj : ∀ k k' y, st.obj k = some y → mvN id st.next k = some k' → (∀ b o, E.own b o = some k → E'.own b o = some k') → RObj E' w k' (renObj (mvN id st.next) y) := fun k k' y hy hk hown => by
    have hr := h.objs _ _ hy
    cases y with
    | cells xs =>
      obtain ⟨g, base, cur, ty, h7, h8, h9, h10⟩ := hr
      refine ⟨g, base, cur, ty, hren.at_ _ _ _ hk h7, h8, by simpa using h9, fun q c hc => ?_⟩
      rw [List.getElem?_map] at hc
      cases hx0 : xs[q]? with
      | none => rw [hx0] at hc; cases hc
      | some c0 =>
        rw [hx0] at hc
        cases hc
        obtain ⟨h11, v, h12, h13, h14⟩ := h10 q c0 hx0
        exact ⟨hown _ _ h11, v, h12, h13, hren.rc h14⟩
    | arr ty sz xs =>
      rcases hr with ⟨h7, h8⟩ | ⟨g, cap, cur, h7, h8, h9, h10, h11, h12, h13, h14⟩
      · exact .inl ⟨hren.at_ _ _ _ hk h7, h8⟩
      · refine .inr ⟨g, cap, cur, hren.at_ _ _ _ hk h7, h8, h9, h10, h11, fun o => hown _ _ (h12 o), h13, fun i x hx j t ht => ?_⟩
        obtain ⟨v, h15, h16⟩ := h14 i x hx j t ht
        exact ⟨v, h15, hren.ro _ _ h16⟩
  refine ⟨E', fun t x hx => ?_, h.size, h.defers, fun j x hx => ?_, fun j hj => ?_, ?_, Nat.succ_pos _, h.dom, ⟨h.fc.pre, h.fc.os, h.fc.tape, h.fc.output, h.fc.size, fun i B hB => ?_, h.fc.blk, fun b o hb h0 => ?_, fun b o hb => hnone _ _ (h.fc.fresh b o hb), fun b o he => ?_⟩⟩
  · obtain ⟨y, h1, rfl⟩ := look_mvT hx
    exact hren.rt (h.tmps _ _ h1)
  · rcases look_mvO hkeys hx with ⟨rfl, y, h1, rfl⟩ | ⟨h1, h2, y, h3, rfl⟩
    · exact hobj id _ y h1 (by simp [mvN]) fun b o ho => by
        show (if E.own b o = some id then _ else _) = _
        rw [if_pos ho]
    · exact hobj j _ y h3 (by simp [mvN, h1]) fun b o ho => by
        show (if E.own b o = some id then _ else _) = _
        rw [if_neg (by rw [ho]; simpa using h1), ho]
  · have hj' : st.next + 1 ≤ j := hj
    show (if j = st.next then _ else _) = _
    rw [if_neg (by omega)]
    exact h.next j (by omega)
  · show (if 0 = st.next then _ else _) = _
    rw [if_neg (by omega)]
    exact h.zero
  · have hB' := h.fc.at_ i B hB
    show (if i = st.next then _ else _) = _
    rw [if_neg (by have := hlt _ _ hB'; omega)]
    exact hB'
  · have h4 := h.fc.keep b o hb h0
    show (if E.own b o = some id then _ else _) = _
    rw [if_neg (by rw [h4]; rcases h0 with h0 | h0 <;> rw [h0] <;> simp; omega), h4]
  · have h' : (if E.own b o = some id then some st.next else E.own b o) = some 0 := he
    split at h'
    · have := Option.some.inj h'; omega
    · exact h.fc.pos b o h'
/-- Under a new name it is as it was. -/
theorem am_mv {c : Code} (id : Nat) (hid : (st.obj id).isSome = true) (h : am P C c Q (st.mv id)) : am P C c Q st := am_weak (fun a w ⟨E, hr⟩ => hr.mv hid) h
end
theorem renTV_mv_c (f : Nat → Option Nat) (x : CV) : renTV f (.c x) = .c (renCV f x) := rfl
attribute [go_sem] St.mv mvN mvT mvO
end Go.Proofs.YtaolgdpkcbfocaaDoorA
