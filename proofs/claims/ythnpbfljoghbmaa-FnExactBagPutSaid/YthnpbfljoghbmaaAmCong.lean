/- The calculus: a call that is handed blocks looks at these alone. -/
import Derived.Test.YthnpbfljoghbmaaAmDraw
namespace Go.Proofs.YthnpbfljoghbmaaA
set_option autoImplicit false
set_option linter.unusedVariables false
section
variable {st s0 : St} {kn : Kn}
theorem reach_acc : ∀ {n : Nat} {l acc : List Nat} {j : Nat}, j ∈ acc → j ∈ reach s0 n l acc
  | 0, _, _, _, h => h
  | _ + 1, [], _, _, h => h
  | n + 1, i :: l, acc, j, h => by
    unfold reach
    split
    · exact reach_acc h
    · exact reach_acc (List.mem_append_left _ h)
theorem reach_congr : ∀ {n : Nat} {l acc : List Nat}, (∀ j, j ∈ reach s0 n l acc → st.obj j = s0.obj j) → reach st n l acc = reach s0 n l acc
  | 0, _, _, _ => rfl
  | _ + 1, [], _, _ => rfl
  | n + 1, i :: l, acc, h => by
    unfold reach
    unfold reach at h
    split
    · rename_i hh
      rw [if_pos hh] at h
      exact reach_congr h
    · rename_i hh
      rw [if_neg hh] at h
      rw [h i (reach_acc (by simp))]
      exact reach_congr h
theorem convCV_false {ρ : List Nat} {x : CV} : convCV false st ρ x = convCV false s0 ρ x := by
  cases x <;> simp [convCV]
theorem convTV_false {ρ : List Nat} {x : TV} : convTV false st ρ x = convTV false s0 ρ x := by
  cases x with
  | c x => simp only [convTV]; rw [convCV_false]
  | agg xs =>
    simp only [convTV]
    congr 2
  | tup xs => rfl
theorem convObj_false {ρ : List Nat} {x : AObj} : convObj false st ρ x = convObj false s0 ρ x := by
  cases x with
  | cells xs =>
    simp only [convObj]
    congr 2
  | arr ty sz xs => rfl
  | mp d es => rfl
  | nest ty sz xs => rfl
theorem convArgs_false {ρ : List Nat} : ∀ {l : List Operand}, (∀ x, x ∈ l → st.eval x = s0.eval x) → convArgs false st ρ l = convArgs false s0 ρ l
  | [], _ => rfl
  | x :: l, h => by
    simp only [convArgs]
    rw [h x List.mem_cons_self, convTV_false (s0 := s0), convArgs_false fun y hy => h y (List.mem_cons_of_mem _ hy)]
theorem mkObjs_false {ρ : List Nat} : ∀ {l : List Nat} {k : Nat}, (∀ j, j ∈ l → st.obj j = s0.obj j) → mkObjs st ρ k l = mkObjs s0 ρ k l
  | [], _, _ => rfl
  | j :: l, k, h => by
    simp only [mkObjs]
    rw [h j List.mem_cons_self, mkObjs_false fun i hi => h i (List.mem_cons_of_mem _ hi)]
    have : ((s0.obj j).bind (convObj false st ρ)) = ((s0.obj j).bind (convObj false s0 ρ)) := by
      cases s0.obj j with
      | none => rfl
      | some y => exact convObj_false
    rw [this]
theorem argIds_congr : ∀ {l : List Operand}, (∀ x, x ∈ l → st.eval x = s0.eval x) → argIds st l = argIds s0 l
  | [], _ => rfl
  | x :: l, h => by
    simp only [argIds]
    rw [h x List.mem_cons_self, argIds_congr fun y hy => h y (List.mem_cons_of_mem _ hy)]
def idsOfCall (st : St) (c : Call) : List Nat := reach st 16 (argIds st c.args.toList) []
theorem callBV_congr {c : Call} (he : ∀ x, x ∈ c.args.toList → st.eval x = s0.eval x) (ho : ∀ j, j ∈ idsOfCall s0 c → st.obj j = s0.obj j) : callBV kn st c = callBV kn s0 c := by
  unfold callBV
  split
  · have h1 := argIds_congr he
    have h2 : reach st 16 (argIds st c.args.toList) [] = reach s0 16 (argIds s0 c.args.toList) [] := by rw [h1]; exact reach_congr ho
    rw [h2]
    unfold cb0 cb1
    have ho' : ∀ j, j ∈ reach s0 16 (argIds s0 c.args.toList) [] → st.obj j = s0.obj j := ho
    rw [convArgs_false (s0 := s0) he, mkObjs_false (s0 := s0) ho']
  · rfl
theorem callBV_ids {c : Call} {p : BRes} (h : callBV kn s0 c = some p) : p.1 = idsOfCall s0 c := by
  unfold callBV at h
  split at h
  · obtain ⟨args, h1, h2⟩ := Option.bind_eq_some_iff.1 h
    obtain ⟨objs0, h3, h4⟩ := Option.bind_eq_some_iff.1 h2
    obtain ⟨q, h5, h6⟩ := Option.bind_eq_some_iff.1 h4
    unfold cb3 at h6
    split at h6
    · cases h6; rfl
    · cases h6
  · cases h
def lowCV (n : Nat) : CV → Bool
  | .own id _ _ => decide (id < n)
  | .ptr id _ => decide (id < n)
  | .ifp _ id _ => decide (id < n)
  | .ep id _ _ => decide (id < n)
  | .mp id => decide (id < n)
  | .sq _ id => decide (id < n)
  | _ => true
def lowTV1 (n : Nat) : TV → Bool
  | .c x => lowCV n x
  | .agg xs => xs.all (lowCV n)
  | .tup _ => true
def lowTV (n : Nat) : TV → Bool
  | .tup xs => xs.all (lowTV1 n)
  | .c x => lowCV n x
  | .agg xs => xs.all (lowCV n)
def lowObj (n : Nat) : AObj → Bool
  | .cells xs => xs.all (lowCV n)
  | .arr _ _ _ => true
  | .mp _ _ => true
  | .nest _ _ xs => xs.all fun x => x.all fun c => match c with
    | .c _ => false
    | _ => true
def lowObjs (n : Nat) : List (Nat × AObj) → Bool
  | [] => true
  | p :: l => decide (p.1 < n) && lowObj n p.2 && lowObjs n l
theorem bwd_low {ρ : List Nat} {n nx nx' k : Nat} (h : k < n) : bwd ρ n nx k = bwd ρ n nx' k := by
  unfold bwd
  rw [if_pos h, if_pos h]
theorem renCV_low {ρ : List Nat} {n nx nx' : Nat} {x : CV} (h : lowCV n x = true) : renCV (bwdO ρ n nx) x = renCV (bwdO ρ n nx') x := by
  cases x <;> simp only [lowCV, decide_eq_true_eq] at h <;> simp only [renCV, bwdO] <;> rw [bwd_low (nx' := nx') h]
theorem renCVs_low {ρ : List Nat} {n nx nx' : Nat} {xs : List CV} (h : xs.all (lowCV n) = true) : xs.map (renCV (bwdO ρ n nx)) = xs.map (renCV (bwdO ρ n nx')) :=
  List.map_congr_left fun x hx => renCV_low (List.all_eq_true.1 h x hx)
theorem renTV1_low {ρ : List Nat} {n nx nx' : Nat} {x : TV} (h : lowTV1 n x = true) : renTV1 (bwdO ρ n nx) x = renTV1 (bwdO ρ n nx') x := by
  cases x with
  | c x => simp only [renTV1]; rw [renCV_low (nx' := nx') h]
  | agg xs => simp only [renTV1]; rw [renCVs_low (nx' := nx') h]
  | tup xs => rfl
theorem renTV_low {ρ : List Nat} {n nx nx' : Nat} {x : TV} (h : lowTV n x = true) : renTV (bwdO ρ n nx) x = renTV (bwdO ρ n nx') x := by
  cases x with
  | c x => simp only [renTV, renTV1]; rw [renCV_low (nx' := nx') h]
  | agg xs => simp only [renTV, renTV1]; rw [renCVs_low (nx' := nx') h]
  | tup xs => simp only [renTV]; congr 1; exact List.map_congr_left fun x hx => renTV1_low (List.all_eq_true.1 h x hx)
theorem renObj_low {ρ : List Nat} {n nx nx' : Nat} {x : AObj} (h : lowObj n x = true) : renObj (bwdO ρ n nx) x = renObj (bwdO ρ n nx') x := by
  cases x with
  | cells xs => simp only [renObj]; rw [renCVs_low (nx' := nx') h]
  | arr ty sz xs => rfl
  | mp d es => rfl
  | nest ty sz xs =>
    simp only [renObj]
    congr 1
    refine List.map_congr_left fun x hx => List.map_congr_left fun c hc => ?_
    cases c with
    | c y =>
      have h1 := List.all_eq_true.1 h x hx
      have h2 := List.all_eq_true.1 h1 _ hc
      cases h2
    | t t => rfl
    | row a b r => rfl
theorem backObjs_low {ρ : List Nat} {n nx nx' : Nat} : ∀ {l : List (Nat × AObj)}, lowObjs n l = true → backObjs ρ n nx l = backObjs ρ n nx' l
  | [], _ => rfl
  | p :: l, h => by
    simp only [lowObjs, Bool.and_eq_true, decide_eq_true_eq] at h
    rw [backObjs_cons, backObjs_cons, bwd_low (nx' := nx') h.1.1, renObj_low (nx' := nx') h.1.2, backObjs_low h.2]
/-- New names, or none at all. -/
def lowRes (p : BRes) : Option BRes := if p.2.2.2 = p.1.length + 1 then (if (lowTV (p.1.length + 1) p.2.1 && lowObjs (p.1.length + 1) p.2.2.1) = true then some p else none) else (if p.1.length + 1 < p.2.2.2 then some p else none)
def callBL (kn : Kn) (st : St) (c : Call) : Option BRes := (callBV kn st c).bind lowRes
def itemB (nx : Nat) (p : BRes) : Item := ⟨renTV (bwdO p.1 (p.1.length + 1) nx) p.2.1, p.1, backObjs p.1 (p.1.length + 1) nx p.2.2.1, p.1, p.2.2.2 - (p.1.length + 1)⟩
theorem look_app {α : Type} {i : Nat} : ∀ {l l' : List (Nat × α)}, look i (l ++ l') = match look i l with | some x => some x | none => look i l'
  | [], _ => rfl
  | (k, y) :: l, l' => by
    simp only [List.cons_append, look]
    split
    · rfl
    · exact look_app
theorem back_eqv {o : Oper} {p : BRes} : EqV ((st.back p.1 p.2.2.1 (p.1.length + 1) p.2.2.2).put o.dst (renTV (bwdO p.1 (p.1.length + 1) st.next) p.2.1)) (app o (itemB st.next p) st) := by
  have h1 : ∀ id, look id (backObjs p.1 (p.1.length + 1) st.next p.2.2.1 ++ delAll p.1 st.objs) = look id (updAll (backObjs p.1 (p.1.length + 1) st.next p.2.2.1) (delAll p.1 st.objs)) := fun id => by
    rw [look_app, look_updAll]
    cases look id (backObjs p.1 (p.1.length + 1) st.next p.2.2.1) <;> rfl
  rw [st_back]
  unfold app itemB St.put
  cases o.dst <;> exact ⟨fun t => rfl, h1, rfl⟩
end
section
variable {P : Program} {kn : Kn} {C : Ctx} {ops : Array Oper} {o : Oper} {s0 : St}
theorem callBL_some {c : Call} {p : BRes} (h : callBL kn s0 c = some p) : callBV kn s0 c = some p ∧ (p.2.2.2 - (p.1.length + 1) = 0 → lowTV (p.1.length + 1) p.2.1 = true ∧ lowObjs (p.1.length + 1) p.2.2.1 = true) := by
  obtain ⟨q, h1, h2⟩ := Option.bind_eq_some_iff.1 h
  unfold lowRes at h2
  split at h2
  · split at h2
    · rename_i h3
      cases h2
      simp only [Bool.and_eq_true] at h3
      exact ⟨h1, fun _ => h3⟩
    · cases h2
  · split at h2
    · rename_i h3
      cases h2
      exact ⟨h1, fun h => by omega⟩
    · cases h2
theorem item_eq {st : St} {c : Call} {p : BRes} (h : callBL kn s0 c = some p) (hn : p.2.2.2 - (p.1.length + 1) ≠ 0 → st.next = s0.next) : itemB s0.next p = itemB st.next p := by
  obtain ⟨_, h2⟩ := callBL_some h
  by_cases h0 : p.2.2.2 - (p.1.length + 1) = 0
  · obtain ⟨h3, h4⟩ := h2 h0
    unfold itemB
    rw [renTV_low (nx' := st.next) h3, backObjs_low (nx' := st.next) h4]
  · rw [hn h0]
end
end Go.Proofs.YthnpbfljoghbmaaA
