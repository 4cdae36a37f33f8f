/- The calculus: a new row in an answer, told as one that is only read, beside one block that was handed over. -/
import Derived.Test.YthnpbfljoghbmaaAmFrz
namespace Go.Proofs.YthnpbfljoghbmaaA
set_option autoImplicit false
set_option linter.unusedVariables false
theorem tc_freeze1 {P : Program} {f : FuncId} {args : List TV} {o : AObj} {xs ys : List Tree} {ty sz n : Nat} {rows : List (List Tree)}
    (h : TC P f args [(1, o)] 2 (.agg (xs.map .t ++ [.own 2 0 n])) [(1, .cells (ys.map .t)), (2, .arr ty sz rows)] 3) (hn : n = rows.length) :
    TC P f args [(1, o)] 2 (.agg (xs.map .t ++ [.t (.sl sz rows)])) [(1, .cells (ys.map .t))] 2 := by
  refine ⟨h.1, fun E w vs hvs hobjs hnext hzero hfresh hown hpre => ?_⟩
  refine (h.2 E w vs hvs hobjs hnext hzero hfresh hown hpre).mono ?_
  rintro e w' ⟨v, E', rfl, hv, hfc, hob, hnx, hz⟩
  have hr := hob 2 _ rfl
  have hr1 := hob 1 _ rfl
  obtain ⟨ws, h1, h2⟩ : ∃ ws : List Value, v = .agg ws.toArray ∧ All2 (RC E' w') ws (xs.map CV.t ++ [CV.own 2 0 n]) := hv
  obtain ⟨us, u, rfl, h3, h4⟩ := all2_snoc h2
  let F : Env := ⟨fun id => if id = 2 then none else E'.at_ id, fun b o => if E'.own b o = some 2 then none else E'.own b o⟩
  have hF : ∀ b o, E'.own b o = none → F.own b o = none := fun b o h0 => by
    show (if E'.own b o = some 2 then none else E'.own b o) = none
    rw [if_neg (by rw [h0]; simp), h0]
  have hu : RO w' (fun b o => F.own b o = none) u (.sl sz rows) := by
    subst hn
    rcases h4 with ⟨g1, rfl, -, g2⟩ | ⟨g, sz', cap, o, g1, rfl, g2, g3⟩
    · have : rows = [] := List.eq_nil_of_length_eq_zero g2
      subst this
      exact RO.sl none 0 sz [] 0 0 (fun _ _ => .bool false) (Nat.le_refl _) (Nat.zero_le _) (fun x hx => by cases hx) (fun h => (h rfl).elim) (fun i j hi => absurd hi (Nat.not_lt_zero _)) (fun i x hx => by simp at hx)
    · rcases hr with ⟨k1, _⟩ | ⟨g', cap', cur, k1, k2, k3, k4, k5, k6, k7, k8⟩
      · rw [g1] at k1; cases k1
      rw [g1] at k1; cases k1
      have ho : rows ≠ [] → o = 0 := fun hne => by
        have : 0 < rows.length := by
          cases rows with
          | nil => exact absurd rfl hne
          | cons _ _ => simp
        rw [g3 (by omega), Nat.zero_mul]
      have hcell : ∀ i j, i < rows.length → j < sz → ∃ u, cur[i * sz + j]? = some u := fun i j hi hj => by
        have h9 : i * sz + sz ≤ cap * sz := by
          have := Nat.mul_le_mul_right sz (show i + 1 ≤ cap by omega)
          rwa [Nat.add_mul, Nat.one_mul] at this
        exact ⟨_, Array.getElem?_eq_getElem (by omega)⟩
      rw [Nat.sub_zero]
      refine RO.sl (some ⟨g, o, none⟩) cap sz rows g 0 (fun i j => (cur[i * sz + j]?).getD (.bool false)) k4 (by omega) k7 (fun hne => by rw [ho hne]) (fun i j hi hj => ?_) (fun i x hx j t ht => ?_)
      · refine ⟨?_, ?_⟩
        · show (if E'.own g _ = some 2 then none else E'.own g _) = none
          rw [if_pos (k6 _)]
        · obtain ⟨u, hu⟩ := hcell i j hi hj
          rw [cur_cell k2, Nat.zero_add, hu]
          rfl
      · obtain ⟨u, h10, h11⟩ := k8 i x hx j t ht
        simp only [h10, Option.getD_some]
        exact RO.mono (fun b o u hb hc => ⟨hF b o hb, hc⟩) h11
  have hO : RObj F w' 1 (.cells (ys.map .t)) := by
    obtain ⟨g, base, cur, ty', k1, k2, k3, k4⟩ := hr1
    refine ⟨g, base, cur, ty', ?_, k2, k3, fun j x hx => ?_⟩
    · show (if (1 : Nat) = 2 then none else E'.at_ 1) = _
      rw [if_neg (by decide)]
      exact k1
    · obtain ⟨q1, v', q2, q3, q4⟩ := k4 j x hx
      refine ⟨?_, v', q2, q3, ?_⟩
      · show (if E'.own g _ = some 2 then none else E'.own g _) = _
        rw [if_neg (by rw [q1]; simp)]
        exact q1
      · rw [List.getElem?_map] at hx
        cases hy : ys[j]? with
        | none => rw [hy] at hx; cases hx
        | some t =>
          rw [hy] at hx
          cases hx
          have q5 : RO w' (fun b o => E'.own b o = none) v' t := q4
          exact RO.mono (fun b o u hb hc => ⟨hF b o hb, hc⟩) q5
  have hid : ∀ b o id, E'.own b o = some id → F.own b o = if id = 2 then none else some id := fun b o id hq => by
    show (if E'.own b o = some 2 then none else E'.own b o) = _
    rw [hq]
    by_cases hi : id = 2
    · subst hi; simp
    · rw [if_neg (by simp [hi]), if_neg hi]
  refine ⟨_, F, rfl, ⟨us ++ [u], h1, all2_mk_snoc (all2_tree hF h3) hu⟩, ⟨hfc.pre, hfc.os, hfc.tape, hfc.output, hfc.size, fun id B hB => ?_, hfc.blk, fun b o hb h0 => ?_, fun b o hb => hF b o (hfc.fresh b o hb), fun b o he => ?_⟩, (fun id x hx => ?_), (fun id hi => ?_), ?_⟩
  · show (if id = 2 then none else E'.at_ id) = some B
    by_cases hi : id = 2
    · rw [hnext id (by omega)] at hB; cases hB
    · rw [if_neg hi]; exact hfc.at_ id B hB
  · have h5 := hfc.keep b o hb h0
    show (if E'.own b o = some 2 then none else E'.own b o) = _
    rw [if_neg (by rw [h5]; rcases h0 with h0 | h0 <;> rw [h0] <;> simp), h5]
  · have h' : (if E'.own b o = some 2 then none else E'.own b o) = some 0 := he
    split at h'
    · cases h'
    · exact hfc.pos b o h'
  · simp only [look] at hx
    split at hx
    · rename_i e; subst e; cases hx; exact hO
    · cases hx
  · show (if id = 2 then none else E'.at_ id) = none
    by_cases h2 : id = 2
    · rw [if_pos h2]
    · rw [if_neg h2]; exact hnx id (by omega)
  · show (if (0 : Nat) = 2 then none else E'.at_ 0) = none
    rw [if_neg (by decide)]
    exact hz
end Go.Proofs.YthnpbfljoghbmaaA
