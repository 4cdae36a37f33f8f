/- Bags: the walls as a set (a map of the call's own, handed back). -/
import Derived.Test.YthnpbfljoghbmaaFRows
namespace Go.Proofs.YthnpbfljoghbmaaA
open Go.Proofs
set_option autoImplicit false
set_option linter.unusedVariables false
set_option linter.unusedSimpArgs false
set_option maxRecDepth 4000
def wallE (ws : List Int) : List (Value × Value) := ws.foldl (fun es w => mset (.int .i64 w) (.bool true) es) []
theorem wallE_snoc (ws : List Int) (w : Int) : wallE (ws ++ [w]) = mset (.int .i64 w) (.bool true) (wallE ws) := by simp [wallE]
theorem walled_tc (ws : List Int) (hl : ws.length ≤ 1073741824) : TC Try.prog 72 [ro 1 (ws.map iTr)] [] 1 (.c (.mp 1)) [(1, .mp (some .i64) (wallE ws))] 2 := by
  refine tc_intro Try.func72 rfl 17 rfl (Nat.le_of_ble_eq_true rfl) (by decide) [2] rfl (by intro id x h; cases h) ?_
  intro w0 E0
  have kOk := k0
  have hp := (show (ws.map iTr).length = ws.length from by simp)
  refine wk1 ?_
  refine am_tidy [(1, 1)] [3, 7, 8, 9] 2 rfl ?_
  refine go1 ?_
  clear hp
  refine am_loop (ws.length + 1) ?_
  suffices key : ∀ (d k : Nat) (es : List (Value × Value)), k + d = ws.length → es = wallE (ws.take k) → amR Try.prog _ _ _ (d + 1) ⟨[(3, .c (.mp 1)), (7, ro 1 (ws.map iTr)), (8, int (ws.length : Nat)), (9, int (k : Nat))], [(1, .mp (some .i64) es)], 2⟩ from key ws.length 0 [] (by simp) (by simp [wallE])
  intro d
  induction d with
  | zero =>
    intro k es hk he
    have hk' : k = ws.length := hk
    rw [hk', List.take_length] at he
    subst he
    have hp := (show ((k : Int) < (ws.length : Int)) = False from eq_false (by omega))
    refine amR_succ ?_
    refine wk1 ?_
    refine am_retB [(1, 1)] rfl ?_ ?_ rfl <;> first | refine go ?_ | rfl
  | succ d ih =>
    intro k es hk he
    obtain ⟨x, hx⟩ : ∃ e, ws[k]? = some e := ⟨ws[k]'(by omega), List.getElem?_eq_getElem (by omega)⟩
    have ihk := ih (k + 1) (mset (.int .i64 x) (.bool true) es) (by omega) (by rw [List.take_add_one, hx, he]; exact (wallE_snoc _ _).symm)
    clear ih
    have hp := (show ((k : Int) < (ws.length : Int)) = True ∧ (k < ws.length) = True ∧ (ws.map iTr)[k]? = some [.v (.int .i64 x)] ∧ IntKind.i64.wrap ((k : Int) + 1) = ((k + 1 : Nat) : Int) from
      ⟨eq_true (by omega), eq_true (by omega), by rw [List.getElem?_map, hx]; rfl, by rw [wrapN (by omega) (by omega)]; rfl⟩)
    refine amR_succ ?_
    refine wk1 ?_
    refine amR_tidy [(1, 1)] [3, 7, 8, 9] 2 rfl ?_
    refine go1 ?_
    exact ihk
/-! ### What is found there -/
theorem mfind_mem {k v : Value} {es : List (Value × Value)} {i j : Nat} (h : mfind k es i = some (j, v)) : ∃ q, (q, v) ∈ es ∧ sameK k q = true := by
  obtain ⟨q, h1, h2, _⟩ := mfind_same h
  exact ⟨q, List.mem_of_getElem? h1, h2⟩
theorem mset_mem {k v : Value} {es : List (Value × Value)} {p : Value × Value} (h : p ∈ mset k v es) : p = (k, v) ∨ p ∈ es := by
  unfold mset at h
  split at h
  · rename_i i u hq
    obtain ⟨j, hj⟩ := List.getElem?_of_mem h
    rw [List.getElem?_modify] at hj
    by_cases hij : i = j
    · simp only [hij, if_true] at hj
      cases hz : es[j]? with
      | none => rw [hz] at hj; cases hj
      | some e => rw [hz] at hj; left; simpa using hj.symm
    · cases hz : es[j]? with
      | none => rw [hz] at hj; cases hj
      | some e =>
        rw [hz] at hj
        simp [hij] at hj
        subst hj
        exact .inr (List.mem_of_getElem? hz)
  · rcases List.mem_append.1 h with h | h
    · exact .inr h
    · exact .inl (by simpa using h)
theorem mset_has {k v : Value} {es : List (Value × Value)} : (k, v) ∈ mset k v es := by
  unfold mset
  split
  · rename_i i u hq
    obtain ⟨q, h1, h2, _⟩ := mfind_same hq
    rw [Nat.sub_zero] at h1
    refine List.mem_of_getElem? (i := i) ?_
    simp [List.getElem?_modify, h1]
  · simp
theorem foldl_wall : ∀ (ws : List Int) (es : List (Value × Value)) (p : Value × Value), p ∈ ws.foldl (fun es w => mset (.int .i64 w) (.bool true) es) es → p ∈ es ∨ ∃ x, x ∈ ws ∧ p = (.int .i64 x, .bool true)
  | [], es, p, h => .inl h
  | w :: ws, es, p, h => by
    rcases foldl_wall ws _ p h with h1 | ⟨x, h1, h2⟩
    · rcases mset_mem h1 with h2 | h2
      · exact .inr ⟨w, List.mem_cons_self, h2⟩
      · exact .inl h2
    · exact .inr ⟨x, List.mem_cons_of_mem _ h1, h2⟩
theorem sameK_int {x : Int} {u : Value} (h : sameK (.int .i64 x) u = true) : ∃ k y, u = .int k y ∧ x = y := by
  cases u with
  | int k y => exact ⟨k, y, rfl, by simpa [sameK] using h⟩
  | _ => cases h
theorem foldl_wall2 : ∀ (ws : List Int) (es : List (Value × Value)) (x : Int), (∀ p, p ∈ es → ∃ y, p = (.int .i64 y, .bool true)) → (x ∈ ws ∨ (.int .i64 x, .bool true) ∈ es) → (.int .i64 x, .bool true) ∈ ws.foldl (fun es w => mset (.int .i64 w) (.bool true) es) es
  | [], es, x, _, h => h.elim (fun h => by cases h) (fun h => h)
  | w :: ws, es, x, he, h => by
    have he' : ∀ p, p ∈ mset (.int .i64 w) (.bool true) es → ∃ y, p = (.int .i64 y, .bool true) := fun p hp => (mset_mem hp).elim (fun e => ⟨w, e⟩) (he p)
    refine foldl_wall2 ws _ x he' ?_
    rcases h with h | h
    · rcases List.mem_cons.1 h with rfl | h
      · exact .inr mset_has
      · exact .inl h
    · right
      by_cases hxw : x = w
      · subst hxw; exact mset_has
      · cases hq : mfind (.int .i64 w) es 0 with
        | none => simp only [mset, hq]; exact List.mem_append_left _ h
        | some r =>
          obtain ⟨i, u⟩ := r
          simp only [mset, hq]
          obtain ⟨q, h1, h2, _⟩ := mfind_same hq
          rw [Nat.sub_zero] at h1
          obtain ⟨j, hj⟩ := List.getElem?_of_mem h
          have hij : i ≠ j := by
            intro e
            subst e
            rw [h1] at hj
            cases hj
            obtain ⟨k, y, e1, e2⟩ := sameK_int h2
            cases e1
            exact hxw e2.symm
          refine List.mem_of_getElem? (i := j) ?_
          simp [List.getElem?_modify, hij, hj]
/-- A number is found in the set just if it is one of the walls, and then stands as true. -/
theorem wall_find (ws : List Int) (x : Int) : (x ∈ ws → ∃ i, mfind (.int .i64 x) (wallE ws) 0 = some (i, .bool true)) ∧ (x ∉ ws → mfind (.int .i64 x) (wallE ws) 0 = none) := by
  have hall : ∀ p, p ∈ wallE ws → ∃ y, y ∈ ws ∧ p = (.int .i64 y, .bool true) := fun p hp => (foldl_wall ws [] p hp).elim (fun h => by cases h) (fun h => h)
  constructor
  · intro hx
    have hm := foldl_wall2 ws [] x (fun p hp => by cases hp) (.inl hx)
    cases hq : mfind (.int .i64 x) (wallE ws) 0 with
    | none =>
      have := mfind_none.1 hq _ hm
      simp [sameK] at this
    | some r =>
      obtain ⟨i, v⟩ := r
      obtain ⟨q, h1, h2⟩ := mfind_mem hq
      obtain ⟨y, _, h3⟩ := hall _ h1
      cases h3
      exact ⟨i, rfl⟩
  · intro hx
    refine mfind_none.2 fun p hp => ?_
    obtain ⟨y, hy, rfl⟩ := hall p hp
    simp only [sameK, beq_eq_false_iff_ne, ne_eq]
    intro e
    subst e
    exact hx hy
end Go.Proofs.YthnpbfljoghbmaaA
