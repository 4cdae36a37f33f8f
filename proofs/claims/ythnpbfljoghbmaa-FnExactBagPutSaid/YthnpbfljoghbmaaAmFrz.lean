/- The calculus: a new row in an answer, told as one that is only read. -/
import Derived.Test.YthnpbfljoghbmaaB2
namespace Go.Proofs.YthnpbfljoghbmaaA
set_option autoImplicit false
set_option linter.unusedVariables false
theorem all2_snoc {α β : Type} {R : α → β → Prop} : ∀ {vs : List α} {xs : List β} {y : β}, All2 R vs (xs ++ [y]) → ∃ us u, vs = us ++ [u] ∧ All2 R us xs ∧ R u y
  | [], [], y, h => h.elim
  | [v], [], y, h => ⟨[], v, rfl, trivial, h.1⟩
  | _ :: _ :: _, [], y, h => h.2.elim
  | [], _ :: _, y, h => h.elim
  | v :: vs, x :: xs, y, h => by
    obtain ⟨us, u, h1, h2, h3⟩ := all2_snoc h.2
    subst h1
    exact ⟨v :: us, u, rfl, ⟨h.1, h2⟩, h3⟩
theorem all2_mk_snoc {α β : Type} {R : α → β → Prop} : ∀ {us : List α} {u : α} {xs : List β} {y : β}, All2 R us xs → R u y → All2 R (us ++ [u]) (xs ++ [y])
  | [], _, [], _, _, h => ⟨h, trivial⟩
  | _ :: _, _, _ :: _, _, h, k => ⟨h.1, all2_mk_snoc h.2 k⟩
  | [], _, _ :: _, _, h, _ => h.elim
  | _ :: _, _, [], _, h, _ => h.elim
theorem all2_tree {w : World} {E E' : Env} (h : ∀ b o, E.own b o = none → E'.own b o = none) : ∀ {vs : List Value} {xs : List Tree}, All2 (RC E w) vs (xs.map .t) → All2 (RC E' w) vs (xs.map .t)
  | [], [], _ => trivial
  | v :: vs, x :: xs, k => ⟨RO.mono (fun b o u hb hc => ⟨h b o hb, hc⟩) k.1, all2_tree h k.2⟩
  | [], _ :: _, k => k.elim
  | _ :: _, [], k => k.elim
theorem tc_freeze {P : Program} {f : FuncId} {args : List TV} {xs : List Tree} {ty sz n : Nat} {rows : List (List Tree)} (h : TC P f args [] 1 (.agg (xs.map .t ++ [.own 1 0 n])) [(1, .arr ty sz rows)] 2) (hn : n = rows.length) :
    TC P f args [] 1 (.agg (xs.map .t ++ [.t (.sl sz rows)])) [] 1 := by
  refine ⟨h.1, fun E w vs hvs hobjs hnext hzero hfresh hown hpre => ?_⟩
  refine (h.2 E w vs hvs hobjs hnext hzero hfresh hown hpre).mono ?_
  rintro e w' ⟨v, E', rfl, hv, hfc, hob, hnx, hz⟩
  have hr := hob 1 _ rfl
  obtain ⟨ws, h1, h2⟩ : ∃ ws : List Value, v = .agg ws.toArray ∧ All2 (RC E' w') ws (xs.map CV.t ++ [CV.own 1 0 n]) := hv
  obtain ⟨us, u, rfl, h3, h4⟩ := all2_snoc h2
  let F : Env := ⟨fun _ => none, fun b o => if E'.own b o = some 1 then none else E'.own b o⟩
  have hF : ∀ b o, E'.own b o = none → F.own b o = none := fun b o h0 => by
    show (if E'.own b o = some 1 then none else E'.own b o) = none
    rw [if_neg (by rw [h0]; simp), h0]
  have hEat : ∀ id B, E.at_ id = some B → False := fun id B hB => by
    rcases Nat.eq_zero_or_pos id with e | e
    · subst e; rw [hzero] at hB; cases hB
    · rw [hnext id e] at hB; cases hB
  have hu : RO w' (fun b o => F.own b o = none) u (.sl sz rows) := by
    subst hn
    rcases h4 with ⟨g1, rfl, -, g2⟩ | ⟨g, sz', cap, o, g1, rfl, g2, g3⟩
    · have : rows = [] := List.eq_nil_of_length_eq_zero g2
      subst this
      exact RO.sl none 0 sz [] 0 0 (fun _ _ => .bool false) (Nat.le_refl _) (Nat.zero_le _) (fun x hx => by cases hx) (fun h => (h rfl).elim) (fun i j hi => absurd hi (Nat.not_lt_zero _)) (fun i x hx => by simp at hx)
    · rcases hr with ⟨k1, _⟩ | ⟨g', cap', cur, k1, k2, k3, k4, k5, k6, k7, k8⟩
      · rw [g1] at k1; cases k1
      rw [g1] at k1; cases k1
      have ho : rows ≠ [] → o = 0 := fun hne => by
        have : 0 < rows.length := by
          cases rows with
          | nil => exact absurd rfl hne
          | cons _ _ => simp
        rw [g3 (by omega), Nat.zero_mul]
      have hcell : ∀ i j, i < rows.length → j < sz → ∃ u, cur[i * sz + j]? = some u := fun i j hi hj => by
        have h9 : i * sz + sz ≤ cap * sz := by
          have := Nat.mul_le_mul_right sz (show i + 1 ≤ cap by omega)
          rwa [Nat.add_mul, Nat.one_mul] at this
        exact ⟨_, Array.getElem?_eq_getElem (by omega)⟩
      rw [Nat.sub_zero]
      refine RO.sl (some ⟨g, o, none⟩) cap sz rows g 0 (fun i j => (cur[i * sz + j]?).getD (.bool false)) k4 (by omega) k7 (fun hne => by rw [ho hne]) (fun i j hi hj => ?_) (fun i x hx j t ht => ?_)
      · refine ⟨?_, ?_⟩
        · show (if E'.own g _ = some 1 then none else E'.own g _) = none
          rw [if_pos (k6 _)]
        · obtain ⟨u, hu⟩ := hcell i j hi hj
          rw [cur_cell k2, Nat.zero_add, hu]
          rfl
      · obtain ⟨u, h10, h11⟩ := k8 i x hx j t ht
        simp only [h10, Option.getD_some]
        exact RO.mono (fun b o u hb hc => ⟨hF b o hb, hc⟩) h11
  refine ⟨_, F, rfl, ⟨us ++ [u], h1, all2_mk_snoc (all2_tree hF h3) hu⟩, ⟨hfc.pre, hfc.os, hfc.tape, hfc.output, hfc.size, fun id B hB => (hEat id B hB).elim, hfc.blk, fun b o hb h0 => ?_, fun b o hb => hF b o (hfc.fresh b o hb), fun b o he => ?_⟩, (fun id x (hx : look id ([] : List (Nat × AObj)) = some x) => by cases hx), (fun id hid => rfl), rfl⟩
  · have h5 := hfc.keep b o hb h0
    show (if E'.own b o = some 1 then none else E'.own b o) = _
    rw [if_neg (by rw [h5]; rcases h0 with h0 | h0 <;> rw [h0] <;> simp), h5]
  · have h' : (if E'.own b o = some 1 then none else E'.own b o) = some 0 := he
    split at h'
    · cases h'
    · exact hfc.pos b o h'
end Go.Proofs.YthnpbfljoghbmaaA
