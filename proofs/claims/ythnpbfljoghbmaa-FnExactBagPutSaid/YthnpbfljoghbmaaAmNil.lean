/- The calculus: a nil slice in a variable is a row of the call's own with nothing in it. -/
import Derived.Test.YthnpbfljoghbmaaFBase
namespace Go.Proofs.YthnpbfljoghbmaaA
set_option autoImplicit false
set_option linter.unusedVariables false
section
variable {P : Program} {C : Ctx} {Q : Exit → St → Prop} {st : St} {a : Act} {w : World}
theorem Rel.ownNilCell (h : Rel C st a w) {id j : Nat} {xs : List CV} (ho : st.obj id = some (.cells xs)) (hj : xs[j]? = some (.t (.v (.slice none 0 0)))) (ty sz : Nat) : Rel C ((st.new (.arr ty sz [])).setObj id (.cells (xs.set j (.own st.next 0 0)))) a w := by
  obtain ⟨E, h⟩ := h
  have h1 := h.newNil ty sz
  have hne : id ≠ st.next := fun e => by
    have h2 := h.objs _ _ ho
    obtain ⟨g, base, cur, ty', k1, _⟩ := h2
    rw [e, h.next _ (Nat.le_refl _)] at k1
    cases k1
  have ho1 : (st.new (.arr ty sz [])).obj id = some (.cells xs) := by rw [obj_new, if_neg hne]; exact ho
  refine ⟨_, { h1 with objs := fun i o hi => ?_ }⟩
  have hi' : look i (upd id (.cells (xs.set j (.own st.next 0 0))) (st.new (.arr ty sz [])).objs) = some o := hi
  rw [look_upd] at hi'
  split at hi'
  · rename_i e
    subst e
    cases hi'
    obtain ⟨g, base, cur, ty', k1, k2, k3, k4⟩ := h1.objs _ _ ho1
    refine ⟨g, base, cur, ty', k1, k2, by simpa using k3, fun q x hx => ?_⟩
    rw [List.getElem?_set] at hx
    split at hx
    · rename_i e
      subst e
      split at hx
      · cases hx
        obtain ⟨m1, v, m2, m3, m4⟩ := k4 _ _ hj
        refine ⟨m1, v, m2, m3, ?_⟩
        have m5 : RO w _ v (.v (.slice none 0 0)) := m4
        cases m5
        exact .inl ⟨if_pos rfl, rfl, rfl, rfl⟩
      · cases hx
    · exact k4 _ _ hx
  · exact h1.objs _ _ hi'
theorem am_ownNilCell {c : Code} (id j ty sz : Nat) {xs : List CV} (ho : st.obj id = some (.cells xs)) (hj : xs[j]? = some (.t (.v (.slice none 0 0)))) (h : am P C c Q ((st.new (.arr ty sz [])).setObj id (.cells (xs.set j (.own st.next 0 0))))) : am P C c Q st :=
  am_weak (fun a w hr => Rel.ownNilCell hr ho hj ty sz) h
theorem amR_ownNilCell {c : Code} {n : Nat} (id j ty sz : Nat) {xs : List CV} (ho : st.obj id = some (.cells xs)) (hj : xs[j]? = some (.t (.v (.slice none 0 0)))) (h : amR P C c Q n ((st.new (.arr ty sz [])).setObj id (.cells (xs.set j (.own st.next 0 0))))) : amR P C c Q n st := by
  cases n with
  | zero => exact h.elim
  | succ n => exact am_ownNilCell id j ty sz ho hj h
end
attribute [go_sem] Option.isSome_some Option.isSome_none
theorem dom3n {o p q : AObj} (id : Nat) (x : AObj) (h : look id [(1, o), (2, p), (3, q)] = some x) : id < 4 := by
  simp only [look] at h
  split at h
  · omega
  split at h
  · omega
  split at h
  · omega
  · cases h
end Go.Proofs.YthnpbfljoghbmaaA
