/- The laws' functions for pairs. -/
import Derived.Test.YthnpbfljoghbmaaCEnt
namespace Go.Proofs.YthnpbfljoghbmaaA
open Go.Proofs
set_option autoImplicit false
set_option linter.unusedVariables false
set_option linter.unusedSimpArgs false
set_option maxRecDepth 4000
theorem toPr_tc (c : Pr) : TC Try.prog 158 [.agg c.cv] [] 1 (.agg c.cv) [] 1 := by
  refine tc_cell tabOk Try.func158 rfl 11 rfl (Nat.le_of_ble_eq_true rfl) (by decide) [(2, some 206)] rfl (by intro id x h; cases h) ?_
  intro w0 E0
  have kOk := kT9
  obtain ⟨a, v⟩ := c
  simp only [Pr.cv]
  repeat' (fail_if_success (with_reducible apply amR_id)); first
    | (refine guardP_mk (fun h => ?_) (fun h => ?_) <;> (refine go ?_; try simp only [decide_eq_true_eq, decide_eq_false_iff_not, Bool.not_true, Bool.not_false, Bool.not_eq_true', Bool.not_eq_false', beq_iff_eq, bne_iff_ne, beq_eq_false_iff_ne, bne_eq_false_iff_eq, ne_eq, Bool.false_eq_true, reduceCtorEq] at h))
    | (refine hK _ ?_; clear hK K Q1)
    | (refine ⟨by first | omega | (simp only [List.length_map, List.length_append, List.length_cons, List.length_nil, List.length_replicate, List.length_drop, List.length_take]; omega), by unfold maxLen; first | omega | (simp only [List.length_map, List.length_append, List.length_cons, List.length_nil, List.length_replicate, List.length_drop, List.length_take]; omega), ?_⟩)
    | (refine hK _ _ rfl ?_; clear hK K; try refine go ?_)
    | (refine am_retP rfl ?_ rfl; first | refine go ?_ | rfl)
    | (refine am_retC [] rfl ?_ rfl rfl; first | refine go ?_ | rfl)
    | (refine wkp ?_)
    | (refine am_rs tabOk kOk rfl fun K Q1 hK => ?_; refine go ?_)
    | (refine am_reg tabOk kOk rfl fun K Q1 hK => ?_; refine go ?_)
    | (refine am_ds mixed tabOk kOk rfl rfl fun K hK => ?_; refine go ?_)
    | (refine am_dreg mixed tabOk kOk rfl rfl fun K hK => ?_; refine go ?_)
  all_goals rfl
def szPrF (c : Pr) (left : Int) : Int := if lft (left) c.k.size < 0 then -1 else lft (lft (left) c.k.size) c.v.size
theorem szPr_tc (c : Pr) (left : Int) : TC Try.prog 155 [.agg c.cv, int left] [] 1 (int (if szPrF c left < 0 then -1 else szPrF c left)) [] 1 := by
  refine tc_intro Try.func155 rfl 20 rfl (Nat.le_of_ble_eq_true rfl) (by decide) [4] rfl (by intro id x h; cases h) ?_
  intro w0 E0
  have kOk := kT9
  obtain ⟨a, v⟩ := c
  simp only [Pr.cv]
  repeat' (fail_if_success (with_reducible apply amR_id)); first
    | (refine guardP_mk (fun h => ?_) (fun h => ?_) <;> (refine go ?_; try simp only [decide_eq_true_eq, decide_eq_false_iff_not, Bool.not_true, Bool.not_false, Bool.not_eq_true', Bool.not_eq_false', beq_iff_eq, bne_iff_ne, beq_eq_false_iff_ne, bne_eq_false_iff_eq, ne_eq, Bool.false_eq_true, reduceCtorEq] at h))
    | (refine hK _ ?_; clear hK K Q1)
    | (refine ⟨by first | omega | (simp only [List.length_map, List.length_append, List.length_cons, List.length_nil, List.length_replicate, List.length_drop, List.length_take]; omega), by unfold maxLen; first | omega | (simp only [List.length_map, List.length_append, List.length_cons, List.length_nil, List.length_replicate, List.length_drop, List.length_take]; omega), ?_⟩)
    | (refine hK _ _ rfl ?_; clear hK K; try refine go ?_)
    | (refine am_retP rfl ?_ rfl; first | refine go ?_ | rfl)
    | (refine am_retC [] rfl ?_ rfl rfl; first | refine go ?_ | rfl)
    | (refine wkp ?_)
    | (refine am_rs tabOk kOk rfl fun K Q1 hK => ?_; refine go ?_)
    | (refine am_reg tabOk kOk rfl fun K Q1 hK => ?_; refine go ?_)
    | (refine am_ds mixed tabOk kOk rfl rfl fun K hK => ?_; refine go ?_)
    | (refine am_dreg mixed tabOk kOk rfl rfl fun K hK => ?_; refine go ?_)
  all_goals (simp only [szPrF, lft]; simp (disch := omega) only [if_pos, if_neg]; try rfl)
set_option maxHeartbeats 8000000 in
theorem eqPr_tc (c d : Pr) : TC Try.prog 153 [.agg c.cv, .agg d.cv] [] 1 (bool (decide (c = d))) [] 1 := by
  refine tc_intro Try.func153 rfl 15 rfl (Nat.le_of_ble_eq_true rfl) (by decide) [4] rfl (by intro id x h; cases h) ?_
  intro w0 E0
  have kOk := kT9
  obtain ⟨a, v⟩ := c
  obtain ⟨a', v'⟩ := d
  simp only [Pr.cv]
  repeat' (fail_if_success (with_reducible apply amR_id)); first
    | (refine guardP_mk (fun h => ?_) (fun h => ?_) <;> (refine go ?_; try simp only [decide_eq_true_eq, decide_eq_false_iff_not, Bool.not_true, Bool.not_false, Bool.not_eq_true', Bool.not_eq_false', beq_iff_eq, bne_iff_ne, beq_eq_false_iff_ne, bne_eq_false_iff_eq, ne_eq, Bool.false_eq_true, reduceCtorEq] at h))
    | (refine hK _ ?_; clear hK K Q1)
    | (refine ⟨by first | omega | (simp only [List.length_map, List.length_append, List.length_cons, List.length_nil, List.length_replicate, List.length_drop, List.length_take]; omega), by unfold maxLen; first | omega | (simp only [List.length_map, List.length_append, List.length_cons, List.length_nil, List.length_replicate, List.length_drop, List.length_take]; omega), ?_⟩)
    | (refine hK _ _ rfl ?_; clear hK K; try refine go ?_)
    | (refine am_retP rfl ?_ rfl; first | refine go ?_ | rfl)
    | (refine am_retC [] rfl ?_ rfl rfl; first | refine go ?_ | rfl)
    | (refine wkp ?_)
    | (refine am_rs tabOk kOk rfl fun K Q1 hK => ?_; refine go ?_)
    | (refine am_reg tabOk kOk rfl fun K Q1 hK => ?_; refine go ?_)
    | (refine am_ds mixed tabOk kOk rfl rfl fun K hK => ?_; refine go ?_)
    | (refine am_dreg mixed tabOk kOk rfl rfl fun K hK => ?_; refine go ?_)
  all_goals simp_all
def kwPr_0_1 (c : Pr) : Option TV := some (.agg c.cv)
def kwPr_0_0 (r0 : List CV) : Option TV := (unPr r0).bind (kwPr_0_1)
def kwPr_0 : List TV → Option TV
  | [.agg r0] => kwPr_0_0 r0
  | _ => none
def kwPr_1_1 (n : Int) (c : Pr) : Option TV := some (int (if szPrF c n < 0 then -1 else szPrF c n))
def kwPr_1_0 (n : Int) (r0 : List CV) : Option TV := (unPr r0).bind (kwPr_1_1 n)
def kwPr_1 : List TV → Option TV
  | [.agg r0, .c (.t (.v (.int .i64 n)))] => kwPr_1_0 n r0
  | _ => none
def kwPr_2_2 (c : Pr) (d : Pr) : Option TV := some (bool (decide (c = d)))
def kwPr_2_1 (r1 : List CV) (c : Pr) : Option TV := (unPr r1).bind (kwPr_2_2 c)
def kwPr_2_0 (r0 : List CV) (r1 : List CV) : Option TV := (unPr r0).bind (kwPr_2_1 r1)
def kwPr_2 : List TV → Option TV
  | [.agg r0, .agg r1] => kwPr_2_0 r0 r1
  | _ => none
def kwPr_call (f : FuncId) (args : List TV) : Option TV := if f = 158 then orO (kwPr_0 args) (kt9.call f args) else if f = 155 then orO (kwPr_1 args) (kt9.call f args) else if f = 153 then orO (kwPr_2 args) (kt9.call f args) else kt9.call f args
def kwPr : Kn := { call := kwPr_call, eqs := eqTys, callB := kt9.callB }
attribute [go_sem] kwPr_0_0 kwPr_0_1 kwPr_0 kwPr_1_0 kwPr_1_1 kwPr_1 kwPr_2_0 kwPr_2_1 kwPr_2_2 kwPr_2 kwPr_call kwPr
theorem kwPr_ok : ∀ f args res, kwPr_call f args = some res → TC Try.prog f args [] 1 res [] 1 := by
  intro f args res h
  unfold kwPr_call at h
  split at h
  · rename_i e; subst e
    have hh := orO_elim h
    clear h
    rcases hh with h | h
    rotate_left
    · exact kT9.call _ _ _ h
    unfold kwPr_0 at h
    split at h
    · rename_i r0; unfold kwPr_0_0 at h
      obtain ⟨c, e0, h⟩ := Option.bind_eq_some_iff.1 h
      unfold kwPr_0_1 at h
      cases h; rw [unPr_ok e0]; exact toPr_tc c
    · cases h
  split at h
  · rename_i e; subst e
    have hh := orO_elim h
    clear h
    rcases hh with h | h
    rotate_left
    · exact kT9.call _ _ _ h
    unfold kwPr_1 at h
    split at h
    · rename_i r0 n; unfold kwPr_1_0 at h
      obtain ⟨c, e0, h⟩ := Option.bind_eq_some_iff.1 h
      unfold kwPr_1_1 at h
      cases h; rw [unPr_ok e0]; exact szPr_tc c n
    · cases h
  split at h
  · rename_i e; subst e
    have hh := orO_elim h
    clear h
    rcases hh with h | h
    rotate_left
    · exact kT9.call _ _ _ h
    unfold kwPr_2 at h
    split at h
    · rename_i r0 r1; unfold kwPr_2_0 at h
      obtain ⟨c, e0, h⟩ := Option.bind_eq_some_iff.1 h
      unfold kwPr_2_1 at h
      obtain ⟨d, e1, h⟩ := Option.bind_eq_some_iff.1 h
      unfold kwPr_2_2 at h
      cases h; rw [unPr_ok e0, unPr_ok e1]; exact eqPr_tc c d
    · cases h
  · exact kT9.call f args res h
theorem kWPr : KnOk Try.prog kwPr := ⟨kwPr_ok, eqTysOk, kT9.callB⟩
set_option maxHeartbeats 8000000 in
theorem toPrs_tc (l : List Pr) (hl : l.length ≤ 1048576) : TC Try.prog 128 [ro 2 (l.map Pr.tr)] [] 1 (.c (.own 1 0 l.length)) [(1, .arr 206 2 (l.map Pr.tr))] 2 := by
  refine tc_intro Try.func128 rfl 23 rfl (Nat.le_of_ble_eq_true rfl) (by decide) [2] rfl (by intro id x h; cases h) ?_
  intro w0 E0
  have kOk := kWPr
  have hp : (l.map Pr.tr).length = l.length := by simp
  refine wk1 ?_
  refine am_rs tabOk kOk rfl fun K Q1 hK => ?_
  refine go1 ?_
  refine ⟨⟨by omega, by unfold maxLen; omega⟩, ?_⟩
  refine hK _ ?_
  clear hK K Q1
  refine wk1 ?_
  refine am_tidy [(1, 1)] [0, 3, 4] 2 rfl ?_
  refine go1 ?_
  clear hp
  refine am_loop (l.length + 1) ?_
  suffices key : ∀ (d k : Nat), k + d = l.length → amR Try.prog _ _ _ (d + 1) ⟨[(0, ro 2 (l.map Pr.tr)), (3, .c (.own 1 0 l.length)), (4, int (k : Nat))], [(1, .arr 206 2 (half Pr.tr [Tree.v (Value.string { data := #[] }), Tree.v (Value.string { data := #[] })] l k))], 2⟩ from by
    have := key l.length 0 (by simp)
    rw [half_zero] at this
    exact this
  intro d
  induction d with
  | zero =>
    intro k hk
    have hp : (l.map Pr.tr).length = l.length := by simp
    refine amR_succ ?_
    refine wk1 ?_
    refine guardP_mk (fun h => ?_) (fun h => ?_)
    · simp at h; omega
    · refine go1 ?_
      refine wk1 ?_
      have hk' : k = l.length := hk
      subst hk'
      rw [half_all]
      refine am_retB [(1, 1)] rfl ?_ ?_ rfl <;> first | refine go ?_ | rfl
  | succ d ih =>
    intro k hk
    obtain ⟨e, he⟩ : ∃ e, l[k]? = some e := ⟨l[k]'(by omega), List.getElem?_eq_getElem (by omega)⟩
    have hp := (show (l.map Pr.tr).length = l.length ∧ (l.map Pr.tr)[k]? = some (Pr.tr e) ∧ (half Pr.tr [Tree.v (Value.string { data := #[] }), Tree.v (Value.string { data := #[] })] l k)[k]? = some [Tree.v (Value.string { data := #[] }), Tree.v (Value.string { data := #[] })] ∧ IntKind.i64.wrap ((k : Int) + 1) = ((k + 1 : Nat) : Int) ∧ (k < l.length) = True ∧ (half Pr.tr [Tree.v (Value.string { data := #[] }), Tree.v (Value.string { data := #[] })] l k).set k (Pr.tr e) = half Pr.tr [Tree.v (Value.string { data := #[] }), Tree.v (Value.string { data := #[] })] l (k + 1) from
      ⟨by simp, by rw [List.getElem?_map, he]; rfl, half_at (by omega), by rw [wrapN (by omega) (by omega)]; rfl, eq_true (by omega), half_set he⟩)
    obtain ⟨a, v⟩ := e
    simp only [Pr.tr] at hp
    refine amR_succ ?_
    refine wk1 ?_
    refine guardP_mk (fun h => ?_) (fun h => ?_)
    · refine go1 ?_
      refine wk1 ?_
      refine amR_tidy [(1, 1)] [0, 3, 4] 2 rfl ?_
      refine go1 ?_
      exact ih (k + 1) (by omega)
    · simp at h; omega
set_option maxHeartbeats 8000000 in
theorem eqPrs_tc (l r : List Pr) (hl : l.length ≤ 1048576) : TC Try.prog 115 [ro 2 (l.map Pr.tr), ro 2 (r.map Pr.tr)] [] 1 (bool (decide (l = r))) [] 1 := by
  refine tc_intro Try.func115 rfl 27 rfl (Nat.le_of_ble_eq_true rfl) (by decide) [4] rfl (by intro id x h; cases h) ?_
  intro w0 E0
  have kOk := kWPr
  have hp : (l.map Pr.tr).length = l.length ∧ (r.map Pr.tr).length = r.length := by simp
  refine wk1 ?_
  refine guardP_mk (fun h => ?_) (fun h => ?_)
  · refine go1 ?_
    refine wk1 ?_
    refine am_retP rfl ?_ rfl
    refine go ?_
    have : ¬ l = r := fun e => by subst e; simp at h
    simp [this]
  have hlr : l.length = r.length := by simp at h; omega
  refine go1 ?_
  refine wk1 ?_
  refine am_tidy [] [0, 1, 5] 1 rfl ?_
  refine go1 ?_
  clear hp
  refine am_loop (l.length + 1) ?_
  suffices key : ∀ (d k : Nat), k + d = l.length → l.take k = r.take k → amR Try.prog _ _ _ (d + 1) ⟨[(0, ro 2 (l.map Pr.tr)), (1, ro 2 (r.map Pr.tr)), (5, int (k : Nat))], [], 1⟩ from key l.length 0 (by simp) rfl
  intro d
  induction d with
  | zero =>
    intro k hk ht
    have hp : (l.map Pr.tr).length = l.length := by simp
    refine amR_succ ?_
    refine wk1 ?_
    refine guardP_mk (fun h => ?_) (fun h => ?_)
    · simp at h; omega
    · refine go1 ?_
      refine wk1 ?_
      refine am_retP rfl ?_ rfl
      refine go ?_
      have : l = r := by rwa [List.take_of_length_le (by omega), List.take_of_length_le (by omega)] at ht
      simp [this]
  | succ d ih =>
    intro k hk ht
    obtain ⟨e, he⟩ : ∃ e, l[k]? = some e := ⟨l[k]'(by omega), List.getElem?_eq_getElem (by omega)⟩
    obtain ⟨e', he'⟩ : ∃ e', r[k]? = some e' := ⟨r[k]'(by omega), List.getElem?_eq_getElem (by omega)⟩
    have hp := (show (l.map Pr.tr).length = l.length ∧ (l.map Pr.tr)[k]? = some (Pr.tr e) ∧ (r.map Pr.tr)[k]? = some (Pr.tr e') ∧ IntKind.i64.wrap ((k : Int) + 1) = ((k + 1 : Nat) : Int) from
      ⟨by simp, by rw [List.getElem?_map, he]; rfl, by rw [List.getElem?_map, he']; rfl, by rw [wrapN (by omega) (by omega)]; rfl⟩)
    have hee : e = e' → l.take (k + 1) = r.take (k + 1) := fun h => by rw [List.take_add_one, List.take_add_one, ht, he, he', h]
    have hne : e ≠ e' → l ≠ r := fun hx h2 => by subst h2; rw [he] at he'; exact hx (Option.some.inj he')
    obtain ⟨a, v⟩ := e
    obtain ⟨a', v'⟩ := e'
    simp only [Pr.tr] at hp
    refine amR_succ ?_
    refine wk1 ?_
    refine guardP_mk (fun h => ?_) (fun h => ?_)
    · refine go1 ?_
      refine wk1 ?_
      refine guardP_mk (fun h => ?_) (fun h => ?_)
      · refine go1 ?_
        refine wk1 ?_
        refine am_retP rfl ?_ rfl
        refine go ?_
        have := hne (by intro hx; simp at h; simp_all)
        simp [this]
      · refine go1 ?_
        refine wk1 ?_
        refine amR_tidy [] [0, 1, 5] 1 rfl ?_
        refine go1 ?_
        exact ih (k + 1) (by omega) (hee (by simp at h; simp_all))
    · simp at h; omega
def szPr1 (e : Pr) (s : Int) : Int := if szPrF e s < 0 then -1 else szPrF e s
def szPrGo : List Pr → Int → Int
  | [], s => s
  | e :: l, s => if szPr1 e s < 0 then -1 else szPrGo l (szPr1 e s)
def szPrsF (l : List Pr) (left : Int) : Int := if IntKind.i64.wrap (left - l.length) < 0 then -1 else szPrGo l (IntKind.i64.wrap (left - l.length))
theorem szPrGo_drop {l : List Pr} {k : Nat} {e : Pr} (h : l[k]? = some e) (s : Int) : szPrGo (l.drop k) s = if szPr1 e s < 0 then -1 else szPrGo (l.drop (k + 1)) (szPr1 e s) := by
  have hk := (List.getElem?_eq_some_iff.1 h).1
  rw [List.drop_eq_getElem_cons hk]
  have : l[k] = e := by rw [List.getElem?_eq_getElem hk] at h; exact Option.some.inj h
  simp only [szPrGo, this]
set_option maxHeartbeats 8000000 in
theorem szPrs_tc (l : List Pr) (left : Int) (hl : l.length ≤ maxLen) : TC Try.prog 123 [ro 2 (l.map Pr.tr), int left] [] 1 (int (szPrsF l left)) [] 1 := by
  refine tc_intro Try.func123 rfl 27 rfl (Nat.le_of_ble_eq_true rfl) (by decide) [4] rfl (by intro id x h; cases h) ?_
  intro w0 E0
  have kOk := kWPr
  unfold maxLen at hl
  have hp : (l.map Pr.tr).length = l.length := by simp
  refine wk1 ?_
  refine guardP_mk (fun h => ?_) (fun h => ?_)
  · refine go1 ?_
    refine wk1 ?_
    refine am_retP rfl ?_ rfl
    refine go ?_
    simp only [decide_eq_true_eq] at h
    simp only [szPrsF, if_pos h]
  simp only [Bool.not_true, decide_eq_false_iff_not] at h
  have hs : szPrsF l left = szPrGo l (IntKind.i64.wrap (left - l.length)) := by simp only [szPrsF, if_neg h]
  rw [hs]
  refine go1 ?_
  refine wk1 ?_
  refine am_tidy [] [0, 1, 5] 1 rfl ?_
  refine go1 ?_
  clear hp
  refine am_loop (l.length + 1) ?_
  suffices key : ∀ (d k : Nat) (s : Int), k + d = l.length → szPrGo (l.drop k) s = szPrGo l (IntKind.i64.wrap (left - l.length)) → amR Try.prog _ _ _ (d + 1) ⟨[(0, ro 2 (l.map Pr.tr)), (1, int s), (5, int (k : Nat))], [], 1⟩ from key l.length 0 _ (by simp) rfl
  intro d
  induction d with
  | zero =>
    intro k s hk hf
    have hp : (l.map Pr.tr).length = l.length := by simp
    rw [List.drop_eq_nil_of_le (by omega)] at hf
    refine amR_succ ?_
    repeat' (fail_if_success (with_reducible apply amR_id)); first
      | (refine guardP_mk (fun h => ?_) (fun h => ?_) <;> (refine go1 ?_; try simp only [decide_eq_true_eq, decide_eq_false_iff_not, Bool.not_true, Bool.not_false, Bool.not_eq_true', Bool.not_eq_false', beq_iff_eq, bne_iff_ne, beq_eq_false_iff_ne, bne_eq_false_iff_eq, ne_eq, Bool.false_eq_true, reduceCtorEq] at h))
      | (refine hK _ ?_; clear hK K Q1)
      | (refine ⟨by first | omega | (simp only [List.length_map, List.length_append, List.length_cons, List.length_nil, List.length_replicate, List.length_drop, List.length_take]; omega), by unfold maxLen; first | omega | (simp only [List.length_map, List.length_append, List.length_cons, List.length_nil, List.length_replicate, List.length_drop, List.length_take]; omega), ?_⟩)
      | (refine hK _ _ rfl ?_; clear hK K; try refine go1 ?_)
      | (refine am_retP rfl ?_ rfl; first | refine go ?_ | rfl)
      | (refine am_retC [] rfl ?_ rfl rfl; first | refine go ?_ | rfl)
      | (refine wkq ?_)
      | (refine am_rs tabOk kOk rfl fun K Q1 hK => ?_; refine go1 ?_)
      | (refine am_reg tabOk kOk rfl fun K Q1 hK => ?_; refine go1 ?_)
      | (refine am_ds mixed tabOk kOk rfl rfl fun K hK => ?_; refine go1 ?_)
      | (refine am_dreg mixed tabOk kOk rfl rfl fun K hK => ?_; refine go1 ?_)
    all_goals first | (exfalso; omega) | (rw [← hf]; rfl)
  | succ d ih =>
    intro k s hk hf
    obtain ⟨e, he⟩ : ∃ e, l[k]? = some e := ⟨l[k]'(by omega), List.getElem?_eq_getElem (by omega)⟩
    rw [szPrGo_drop he] at hf
    have hp := (show (l.map Pr.tr).length = l.length ∧ (l.map Pr.tr)[k]? = some e.tr ∧ IntKind.i64.wrap ((k : Int) + 1) = ((k + 1 : Nat) : Int) from ⟨by simp, by rw [List.getElem?_map, he]; rfl, by rw [wrapN (by omega) (by omega)]; rfl⟩)
    have hz : szPr1 e s = if szPrF e s < 0 then -1 else szPrF e s := rfl
    obtain ⟨a, v⟩ := e
    simp only [Pr.tr] at hp
    refine amR_succ ?_
    repeat' (fail_if_success (with_reducible apply amR_id)); first
      | (refine guardP_mk (fun h => ?_) (fun h => ?_) <;> (refine go1 ?_; try simp only [decide_eq_true_eq, decide_eq_false_iff_not, Bool.not_true, Bool.not_false, Bool.not_eq_true', Bool.not_eq_false', beq_iff_eq, bne_iff_ne, beq_eq_false_iff_ne, bne_eq_false_iff_eq, ne_eq, Bool.false_eq_true, reduceCtorEq] at h))
      | (refine hK _ ?_; clear hK K Q1)
      | (refine ⟨by first | omega | (simp only [List.length_map, List.length_append, List.length_cons, List.length_nil, List.length_replicate, List.length_drop, List.length_take]; omega), by unfold maxLen; first | omega | (simp only [List.length_map, List.length_append, List.length_cons, List.length_nil, List.length_replicate, List.length_drop, List.length_take]; omega), ?_⟩)
      | (refine hK _ _ rfl ?_; clear hK K; try refine go1 ?_)
      | (refine am_retP rfl ?_ rfl; first | refine go ?_ | rfl)
      | (refine am_retC [] rfl ?_ rfl rfl; first | refine go ?_ | rfl)
      | (refine wkq ?_)
      | (refine am_rs tabOk kOk rfl fun K Q1 hK => ?_; refine go1 ?_)
      | (refine am_reg tabOk kOk rfl fun K Q1 hK => ?_; refine go1 ?_)
      | (refine am_ds mixed tabOk kOk rfl rfl fun K hK => ?_; refine go1 ?_)
      | (refine am_dreg mixed tabOk kOk rfl rfl fun K hK => ?_; refine go1 ?_)
    all_goals try (refine amR_tidy [] [0, 1, 5] 1 rfl ?_; refine go1 ?_; refine ih (k + 1) _ ?_ ?_)
    all_goals first | omega | (clear ih hp; simp only [TV.c.injEq, CV.t.injEq, Tree.v.injEq, Value.int.injEq, true_and]; rw [← hf]; simp only [szPr1] at *; grind) | (clear ih hp; simp only [szPr1] at *; grind) | (clear ih hp)
theorem szPrs_len {l : List Pr} {left : Int} (h : l.length ≤ maxLen) (h1 : 0 ≤ left ∧ left ≤ 1048576) (h2 : ¬ szPrsF l left < 0) : l.length ≤ 1048576 := by
  unfold maxLen at h
  unfold szPrsF at h2
  split at h2
  · omega
  · rename_i h3
    rw [IntKind.wrap_i64] at h3
    omega
/-! marks -/
def mkPr (k : Int) : Pr := ⟨mtF (k), mtF (k + 1)⟩
def mkPrs (n : Nat) (k : Int) : List Pr := (List.range n).map fun i => mkPr (k + 2 * (i : Nat))
theorem mkPrs_len (n : Nat) (k : Int) : (mkPrs n k).length = n := by simp [mkPrs]
theorem mkPrs_get {n i : Nat} (k : Int) (h : i < n) : (mkPrs n k)[i]? = some (mkPr (k + 2 * (i : Nat))) := by simp [mkPrs, h]
def ptPr (l : List Pr) (k : Int) (i : Nat) : List (List Tree) := (mkPrs i k).map Pr.tr ++ (l.drop i).map Pr.tr
theorem ptPr_zero {l : List Pr} {k : Int} : ptPr l k 0 = l.map Pr.tr := by simp [ptPr, mkPrs]
theorem ptPr_all {l : List Pr} {k : Int} : ptPr l k l.length = (mkPrs l.length k).map Pr.tr := by simp [ptPr]
theorem ptPr_len {l : List Pr} {k : Int} {i : Nat} (h : i ≤ l.length) : (ptPr l k i).length = l.length := by simp [ptPr, mkPrs_len]; omega
theorem ptPr_set {l : List Pr} {k : Int} {i : Nat} (h : i < l.length) : (ptPr l k i).set i (mkPr (k + 2 * (i : Nat))).tr = ptPr l k (i + 1) := by
  unfold ptPr
  have h1 : ((mkPrs i k).map Pr.tr).length = i := by simp [mkPrs_len]
  rw [List.set_append_right _ _ (by omega), h1, Nat.sub_self, List.drop_eq_getElem_cons h, List.map_cons, List.set_cons_zero]
  have h2 : mkPrs (i + 1) k = mkPrs i k ++ [mkPr (k + 2 * (i : Nat))] := by simp [mkPrs, List.range_succ]
  rw [h2, List.map_append, List.append_assoc]
  rfl
theorem ptPr_at {l : List Pr} {k : Int} {i : Nat} {e : Pr} (h : l[i]? = some e) : (ptPr l k i)[i]? = some e.tr := by
  unfold ptPr
  have h1 : ((mkPrs i k).map Pr.tr).length = i := by simp [mkPrs_len]
  rw [List.getElem?_append_right (by omega), h1, Nat.sub_self, List.getElem?_map, List.getElem?_drop, Nat.add_zero, h]
  rfl
set_option maxHeartbeats 16000000 in
theorem markPrs_tc (l : List Pr) (k : Int) (h0 : 0 ≤ k) (hk : k + 2 * l.length ≤ 1099511627776) : TC Try.prog 119 [.c (.own 1 0 l.length), int k] [(1, .arr 206 2 (l.map Pr.tr))] 2 (int (k + 2 * l.length)) [(1, .arr 206 2 ((mkPrs l.length k).map Pr.tr))] 2 := by
  refine tc_intro Try.func119 rfl 29 rfl (Nat.le_of_ble_eq_true rfl) (by decide) [4] rfl dom1 ?_
  intro w0 E0
  have kOk := kWPr
  refine wk ?_
  refine am_tidy [(1, 1)] [0, 1, 5] 2 rfl ?_
  refine go ?_
  refine am_loop (l.length + 1) ?_
  suffices key : ∀ (d i : Nat) (c : Int), i + d = l.length → c = k + 2 * (i : Nat) → amR Try.prog _ _ _ (d + 1) ⟨[(0, .c (.own 1 0 l.length)), (1, int c), (5, int (i : Nat))], [(1, .arr 206 2 (ptPr l k i))], 2⟩ from by
    have := key l.length 0 k (by simp) (by simp)
    rw [ptPr_zero] at this
    exact this
  intro d
  induction d with
  | zero =>
    intro i c hi hc
    refine amR_succ ?_
    refine wk ?_
    refine guardP_mk (fun h => ?_) (fun h => ?_)
    · simp at h; omega
    · refine go ?_
      refine wk ?_
      have hi' : i = l.length := hi
      subst hi'
      rw [ptPr_all]
      subst hc
      refine am_retB [(1, 1)] rfl ?_ ?_ rfl <;> first | refine go ?_ | rfl
  | succ d ih =>
    intro i c hi hc
    obtain ⟨e, he⟩ : ∃ e, l[i]? = some e := ⟨l[i]'(by omega), List.getElem?_eq_getElem (by omega)⟩
    have hat := ptPr_at (k := k) he
    have hset := ptPr_set (k := k) (show i < l.length by omega)
    rw [← hc] at hset
    have hlen := ptPr_len (k := k) (show i ≤ l.length by omega)
    have hp := (show (ptPr l k i)[i]? = some e.tr ∧ (ptPr l k i).set i (mkPr c).tr = ptPr l k (i + 1) ∧ (∀ r : List Tree, ((ptPr l k i).set i r)[i]? = some r) ∧ (∀ r s : List Tree, ((ptPr l k i).set i r).set i s = (ptPr l k i).set i s) ∧
        IntKind.i64.wrap ((i : Int) + 1) = ((i + 1 : Nat) : Int) ∧ (i < l.length) = True ∧ IntKind.i64.wrap (c + 1) = c + 1 ∧ IntKind.i64.wrap (c + 1 + 1) = c + 1 + 1 ∧ (c ≤ 1152921504606846976) = True ∧ (c + 1 ≤ 1152921504606846976) = True from
      ⟨hat, hset, fun r => by rw [List.getElem?_set_self (by omega)], fun r s => by rw [List.set_set], by rw [wrapN (by omega) (by omega)]; rfl, eq_true (by omega), wrapN (by omega) (by omega), wrapN (by omega) (by omega), eq_true (by omega), eq_true (by omega)⟩)
    clear hat hset hlen
    obtain ⟨a, v⟩ := e
    simp only [Pr.tr, mkPr] at hp
    refine amR_succ ?_
    refine wk1 ?_
    refine guardP_mk (fun h => ?_) (fun h => ?_)
    · refine go1 ?_
      refine wk1 ?_
      refine amR_tidy [(1, 1)] [0, 1, 5] 2 rfl ?_
      refine go1 ?_
      exact ih (i + 1) _ (by omega) (by omega)
    · simp at h; omega
@[go_sem] theorem takePr_mk {β : Type} (f : Pr → β) (n : Nat) (k : Int) : ((mkPrs n k).map f).take n = (mkPrs n k).map f := List.take_of_length_le (by simp [mkPrs_len])
@[go_sem] theorem lePr_mk {β : Type} (f : Pr → β) (n : Nat) (k : Int) : (n ≤ ((mkPrs n k).map f).length) = True := by simp [mkPrs_len]
@[go_sem] theorem mkPr_self (n : Nat) (k : Int) : (mkPrs n k = mkPrs (mkPrs n k).length k) = True := by simp [mkPrs_len]
set_option maxHeartbeats 16000000 in
theorem heldPrs_tc (n : Nat) (k : Int) (h0 : 0 ≤ k) (hk : k + 2 * (n : Nat) ≤ 1099511627776) : TC Try.prog 121 [ro 2 ((mkPrs n k).map Pr.tr), int k] [] 1 (int (k + 2 * (n : Nat))) [] 1 := by
  refine tc_intro Try.func121 rfl 33 rfl (Nat.le_of_ble_eq_true rfl) (by decide) [4] rfl (by intro id x h; cases h) ?_
  intro w0 E0
  have kOk := kWPr
  refine wk ?_
  refine am_tidy [] [0, 1, 5] 1 rfl ?_
  refine go ?_
  refine am_loop (n + 1) ?_
  suffices key : ∀ (d i : Nat) (c : Int), i + d = n → c = k + 2 * (i : Nat) → amR Try.prog _ _ _ (d + 1) ⟨[(0, ro 2 ((mkPrs n k).map Pr.tr)), (1, int c), (5, int (i : Nat))], [], 1⟩ from key n 0 k (by simp) (by simp)
  intro d
  induction d with
  | zero =>
    intro i c hi hc
    have hp : ((mkPrs n k).map Pr.tr).length = n := by simp [mkPrs_len]
    refine amR_succ ?_
    refine wk1 ?_
    refine guardP_mk (fun h => ?_) (fun h => ?_)
    · simp at h; omega
    · refine go1 ?_
      refine wk1 ?_
      have hi' : i = n := hi
      subst hi'
      subst hc
      refine am_retP rfl ?_ rfl
      first | refine go ?_ | rfl
  | succ d ih =>
    intro i c hi hc
    have hat : ((mkPrs n k).map Pr.tr)[i]? = some (mkPr c).tr := by rw [List.getElem?_map, mkPrs_get k (by omega), hc]; rfl
    have hp := (show ((mkPrs n k).map Pr.tr).length = n ∧ ((mkPrs n k).map Pr.tr)[i]? = some (mkPr c).tr ∧
        IntKind.i64.wrap ((i : Int) + 1) = ((i + 1 : Nat) : Int) ∧ (∀ x : Int, (x != x) = false) ∧ IntKind.i64.wrap (c + 1) = c + 1 ∧ IntKind.i64.wrap (c + 1 + 1) = c + 1 + 1 ∧ (c ≤ 1152921504606846976) = True ∧ (c + 1 ≤ 1152921504606846976) = True from
      ⟨by simp [mkPrs_len], hat, by rw [wrapN (by omega) (by omega)]; rfl, fun x => by simp, wrapN (by omega) (by omega), wrapN (by omega) (by omega), eq_true (by omega), eq_true (by omega)⟩)
    clear hat
    simp only [Pr.tr, mkPr] at hp
    refine amR_succ ?_
    refine wk1 ?_
    refine guardP_mk (fun h => ?_) (fun h => ?_)
    · refine go1 ?_
      refine wk1 ?_
      refine amR_tidy [] [0, 1, 5] 1 rfl ?_
      refine go1 ?_
      exact ih (i + 1) _ (by omega) (by omega)
    · simp at h; omega
theorem markPr0_tc (k : Int) : TC Try.prog 119 [lit (.slice none 0 0), int k] [] 1 (int k) [] 1 := by
  refine tc_intro Try.func119 rfl 29 rfl (Nat.le_of_ble_eq_true rfl) (by decide) [4] rfl (by intro id x h; cases h) ?_
  intro w0 E0
  have kOk := kWPr
  refine wk ?_
  refine am_loop 1 (amR_succ ?_)
  repeat' (fail_if_success (with_reducible apply amR_id)); first
    | (refine guardP_mk (fun h => ?_) (fun h => ?_) <;> (refine go ?_; try simp only [decide_eq_true_eq, decide_eq_false_iff_not, Bool.not_true, Bool.not_false, Bool.not_eq_true', Bool.not_eq_false', beq_iff_eq, bne_iff_ne, beq_eq_false_iff_ne, bne_eq_false_iff_eq, ne_eq, Bool.false_eq_true, reduceCtorEq] at h))
    | (refine hK _ ?_; clear hK K Q1)
    | (refine ⟨by first | omega | (simp only [List.length_map, List.length_append, List.length_cons, List.length_nil, List.length_replicate, List.length_drop, List.length_take]; omega), by unfold maxLen; first | omega | (simp only [List.length_map, List.length_append, List.length_cons, List.length_nil, List.length_replicate, List.length_drop, List.length_take]; omega), ?_⟩)
    | (refine hK _ _ rfl ?_; clear hK K; try refine go ?_)
    | (refine am_retP rfl ?_ rfl; first | refine go ?_ | rfl)
    | (refine am_retC [] rfl ?_ rfl rfl; first | refine go ?_ | rfl)
    | (refine wkp ?_)
    | (refine am_rs tabOk kOk rfl fun K Q1 hK => ?_; refine go ?_)
    | (refine am_reg tabOk kOk rfl fun K Q1 hK => ?_; refine go ?_)
    | (refine am_ds mixed tabOk kOk rfl rfl fun K hK => ?_; refine go ?_)
    | (refine am_dreg mixed tabOk kOk rfl rfl fun K hK => ?_; refine go ?_)
  all_goals first | rfl | (exfalso; omega)
theorem heldPr0_tc (k : Int) : TC Try.prog 121 [lit (.slice none 0 0), int k] [] 1 (int k) [] 1 := by
  refine tc_intro Try.func121 rfl 33 rfl (Nat.le_of_ble_eq_true rfl) (by decide) [4] rfl (by intro id x h; cases h) ?_
  intro w0 E0
  have kOk := kWPr
  refine wk ?_
  refine am_loop 1 (amR_succ ?_)
  repeat' (fail_if_success (with_reducible apply amR_id)); first
    | (refine guardP_mk (fun h => ?_) (fun h => ?_) <;> (refine go ?_; try simp only [decide_eq_true_eq, decide_eq_false_iff_not, Bool.not_true, Bool.not_false, Bool.not_eq_true', Bool.not_eq_false', beq_iff_eq, bne_iff_ne, beq_eq_false_iff_ne, bne_eq_false_iff_eq, ne_eq, Bool.false_eq_true, reduceCtorEq] at h))
    | (refine hK _ ?_; clear hK K Q1)
    | (refine ⟨by first | omega | (simp only [List.length_map, List.length_append, List.length_cons, List.length_nil, List.length_replicate, List.length_drop, List.length_take]; omega), by unfold maxLen; first | omega | (simp only [List.length_map, List.length_append, List.length_cons, List.length_nil, List.length_replicate, List.length_drop, List.length_take]; omega), ?_⟩)
    | (refine hK _ _ rfl ?_; clear hK K; try refine go ?_)
    | (refine am_retP rfl ?_ rfl; first | refine go ?_ | rfl)
    | (refine am_retC [] rfl ?_ rfl rfl; first | refine go ?_ | rfl)
    | (refine wkp ?_)
    | (refine am_rs tabOk kOk rfl fun K Q1 hK => ?_; refine go ?_)
    | (refine am_reg tabOk kOk rfl fun K Q1 hK => ?_; refine go ?_)
    | (refine am_ds mixed tabOk kOk rfl rfl fun K hK => ?_; refine go ?_)
    | (refine am_dreg mixed tabOk kOk rfl rfl fun K hK => ?_; refine go ?_)
  all_goals first | rfl | (exfalso; omega)
theorem eqPr0_tc : TC Try.prog 115 [lit (.slice none 0 0), lit (.slice none 0 0)] [] 1 (bool true) [] 1 := by
  refine tc_args (eqPrs_tc [] [] (by simp)) fun E w vs hvs => ?_
  match vs, hvs with
  | [a, b], ⟨k1, k2, _⟩ => exact ⟨nil_sl 2 k1, nil_sl 2 k2, trivial⟩
end Go.Proofs.YthnpbfljoghbmaaA
