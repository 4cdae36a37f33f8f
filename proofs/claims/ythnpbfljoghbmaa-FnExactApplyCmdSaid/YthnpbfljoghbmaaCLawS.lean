/- The laws' functions for sessions. -/
import Derived.Test.YthnpbfljoghbmaaCLawP
namespace Go.Proofs.YthnpbfljoghbmaaA
open Go.Proofs
set_option autoImplicit false
set_option linter.unusedVariables false
set_option linter.unusedSimpArgs false
set_option maxRecDepth 4000
theorem toSs_tc (c : Ss) : TC Try.prog 159 [.agg c.cv] [] 1 (.agg c.cv) [] 1 := by
  refine tc_cell tabOk Try.func159 rfl 17 rfl (Nat.le_of_ble_eq_true rfl) (by decide) [(2, some 192)] rfl (by intro id x h; cases h) ?_
  intro w0 E0
  have kOk := kWPr
  obtain ⟨a, q, o, v⟩ := c
  simp only [Ss.cv]
  repeat' (fail_if_success (with_reducible apply amR_id)); first
    | (refine guardP_mk (fun h => ?_) (fun h => ?_) <;> (refine go ?_; try simp only [decide_eq_true_eq, decide_eq_false_iff_not, Bool.not_true, Bool.not_false, Bool.not_eq_true', Bool.not_eq_false', beq_iff_eq, bne_iff_ne, beq_eq_false_iff_ne, bne_eq_false_iff_eq, ne_eq, Bool.false_eq_true, reduceCtorEq] at h))
    | (refine hK _ ?_; clear hK K Q1)
    | (refine ⟨by first | omega | (simp only [List.length_map, List.length_append, List.length_cons, List.length_nil, List.length_replicate, List.length_drop, List.length_take]; omega), by unfold maxLen; first | omega | (simp only [List.length_map, List.length_append, List.length_cons, List.length_nil, List.length_replicate, List.length_drop, List.length_take]; omega), ?_⟩)
    | (refine hK _ _ rfl ?_; clear hK K; try refine go ?_)
    | (refine am_retP rfl ?_ rfl; first | refine go ?_ | rfl)
    | (refine am_retC [] rfl ?_ rfl rfl; first | refine go ?_ | rfl)
    | (refine wkp ?_)
    | (refine am_rs tabOk kOk rfl fun K Q1 hK => ?_; refine go ?_)
    | (refine am_reg tabOk kOk rfl fun K Q1 hK => ?_; refine go ?_)
    | (refine am_ds mixed tabOk kOk rfl rfl fun K hK => ?_; refine go ?_)
    | (refine am_dreg mixed tabOk kOk rfl rfl fun K hK => ?_; refine go ?_)
  all_goals rfl
def szSsF (c : Ss) (left : Int) : Int := lft (left) c.v.size
theorem szSs_tc (c : Ss) (left : Int) : TC Try.prog 156 [.agg c.cv, int left] [] 1 (int (if szSsF c left < 0 then -1 else szSsF c left)) [] 1 := by
  refine tc_intro Try.func156 rfl 13 rfl (Nat.le_of_ble_eq_true rfl) (by decide) [4] rfl (by intro id x h; cases h) ?_
  intro w0 E0
  have kOk := kWPr
  obtain ⟨a, q, o, v⟩ := c
  simp only [Ss.cv]
  repeat' (fail_if_success (with_reducible apply amR_id)); first
    | (refine guardP_mk (fun h => ?_) (fun h => ?_) <;> (refine go ?_; try simp only [decide_eq_true_eq, decide_eq_false_iff_not, Bool.not_true, Bool.not_false, Bool.not_eq_true', Bool.not_eq_false', beq_iff_eq, bne_iff_ne, beq_eq_false_iff_ne, bne_eq_false_iff_eq, ne_eq, Bool.false_eq_true, reduceCtorEq] at h))
    | (refine hK _ ?_; clear hK K Q1)
    | (refine ⟨by first | omega | (simp only [List.length_map, List.length_append, List.length_cons, List.length_nil, List.length_replicate, List.length_drop, List.length_take]; omega), by unfold maxLen; first | omega | (simp only [List.length_map, List.length_append, List.length_cons, List.length_nil, List.length_replicate, List.length_drop, List.length_take]; omega), ?_⟩)
    | (refine hK _ _ rfl ?_; clear hK K; try refine go ?_)
    | (refine am_retP rfl ?_ rfl; first | refine go ?_ | rfl)
    | (refine am_retC [] rfl ?_ rfl rfl; first | refine go ?_ | rfl)
    | (refine wkp ?_)
    | (refine am_rs tabOk kOk rfl fun K Q1 hK => ?_; refine go ?_)
    | (refine am_reg tabOk kOk rfl fun K Q1 hK => ?_; refine go ?_)
    | (refine am_ds mixed tabOk kOk rfl rfl fun K hK => ?_; refine go ?_)
    | (refine am_dreg mixed tabOk kOk rfl rfl fun K hK => ?_; refine go ?_)
  all_goals (simp only [szSsF, lft]; simp (disch := omega) only [if_pos, if_neg]; try rfl)
set_option maxHeartbeats 8000000 in
theorem eqSs_tc (c d : Ss) : TC Try.prog 154 [.agg c.cv, .agg d.cv] [] 1 (bool (decide (c = d))) [] 1 := by
  refine tc_intro Try.func154 rfl 25 rfl (Nat.le_of_ble_eq_true rfl) (by decide) [4] rfl (by intro id x h; cases h) ?_
  intro w0 E0
  have kOk := kWPr
  obtain ⟨a, q, o, v⟩ := c
  obtain ⟨a', q', o', v'⟩ := d
  simp only [Ss.cv]
  repeat' (fail_if_success (with_reducible apply amR_id)); first
    | (refine guardP_mk (fun h => ?_) (fun h => ?_) <;> (refine go ?_; try simp only [decide_eq_true_eq, decide_eq_false_iff_not, Bool.not_true, Bool.not_false, Bool.not_eq_true', Bool.not_eq_false', beq_iff_eq, bne_iff_ne, beq_eq_false_iff_ne, bne_eq_false_iff_eq, ne_eq, Bool.false_eq_true, reduceCtorEq] at h))
    | (refine hK _ ?_; clear hK K Q1)
    | (refine ⟨by first | omega | (simp only [List.length_map, List.length_append, List.length_cons, List.length_nil, List.length_replicate, List.length_drop, List.length_take]; omega), by unfold maxLen; first | omega | (simp only [List.length_map, List.length_append, List.length_cons, List.length_nil, List.length_replicate, List.length_drop, List.length_take]; omega), ?_⟩)
    | (refine hK _ _ rfl ?_; clear hK K; try refine go ?_)
    | (refine am_retP rfl ?_ rfl; first | refine go ?_ | rfl)
    | (refine am_retC [] rfl ?_ rfl rfl; first | refine go ?_ | rfl)
    | (refine wkp ?_)
    | (refine am_rs tabOk kOk rfl fun K Q1 hK => ?_; refine go ?_)
    | (refine am_reg tabOk kOk rfl fun K Q1 hK => ?_; refine go ?_)
    | (refine am_ds mixed tabOk kOk rfl rfl fun K hK => ?_; refine go ?_)
    | (refine am_dreg mixed tabOk kOk rfl rfl fun K hK => ?_; refine go ?_)
  all_goals simp_all
def kwSs_0_1 (c : Ss) : Option TV := some (.agg c.cv)
def kwSs_0_0 (r0 : List CV) : Option TV := (unSs r0).bind (kwSs_0_1)
def kwSs_0 : List TV → Option TV
  | [.agg r0] => kwSs_0_0 r0
  | _ => none
def kwSs_1_1 (n : Int) (c : Ss) : Option TV := some (int (if szSsF c n < 0 then -1 else szSsF c n))
def kwSs_1_0 (n : Int) (r0 : List CV) : Option TV := (unSs r0).bind (kwSs_1_1 n)
def kwSs_1 : List TV → Option TV
  | [.agg r0, .c (.t (.v (.int .i64 n)))] => kwSs_1_0 n r0
  | _ => none
def kwSs_2_2 (c : Ss) (d : Ss) : Option TV := some (bool (decide (c = d)))
def kwSs_2_1 (r1 : List CV) (c : Ss) : Option TV := (unSs r1).bind (kwSs_2_2 c)
def kwSs_2_0 (r0 : List CV) (r1 : List CV) : Option TV := (unSs r0).bind (kwSs_2_1 r1)
def kwSs_2 : List TV → Option TV
  | [.agg r0, .agg r1] => kwSs_2_0 r0 r1
  | _ => none
def kwSs_call (f : FuncId) (args : List TV) : Option TV := if f = 159 then orO (kwSs_0 args) (kwPr.call f args) else if f = 156 then orO (kwSs_1 args) (kwPr.call f args) else if f = 154 then orO (kwSs_2 args) (kwPr.call f args) else kwPr.call f args
def kwSs : Kn := { call := kwSs_call, eqs := eqTys, callB := kwPr.callB }
attribute [go_sem] kwSs_0_0 kwSs_0_1 kwSs_0 kwSs_1_0 kwSs_1_1 kwSs_1 kwSs_2_0 kwSs_2_1 kwSs_2_2 kwSs_2 kwSs_call kwSs
theorem kwSs_ok : ∀ f args res, kwSs_call f args = some res → TC Try.prog f args [] 1 res [] 1 := by
  intro f args res h
  unfold kwSs_call at h
  split at h
  · rename_i e; subst e
    have hh := orO_elim h
    clear h
    rcases hh with h | h
    rotate_left
    · exact kWPr.call _ _ _ h
    unfold kwSs_0 at h
    split at h
    · rename_i r0; unfold kwSs_0_0 at h
      obtain ⟨c, e0, h⟩ := Option.bind_eq_some_iff.1 h
      unfold kwSs_0_1 at h
      cases h; rw [unSs_ok e0]; exact toSs_tc c
    · cases h
  split at h
  · rename_i e; subst e
    have hh := orO_elim h
    clear h
    rcases hh with h | h
    rotate_left
    · exact kWPr.call _ _ _ h
    unfold kwSs_1 at h
    split at h
    · rename_i r0 n; unfold kwSs_1_0 at h
      obtain ⟨c, e0, h⟩ := Option.bind_eq_some_iff.1 h
      unfold kwSs_1_1 at h
      cases h; rw [unSs_ok e0]; exact szSs_tc c n
    · cases h
  split at h
  · rename_i e; subst e
    have hh := orO_elim h
    clear h
    rcases hh with h | h
    rotate_left
    · exact kWPr.call _ _ _ h
    unfold kwSs_2 at h
    split at h
    · rename_i r0 r1; unfold kwSs_2_0 at h
      obtain ⟨c, e0, h⟩ := Option.bind_eq_some_iff.1 h
      unfold kwSs_2_1 at h
      obtain ⟨d, e1, h⟩ := Option.bind_eq_some_iff.1 h
      unfold kwSs_2_2 at h
      cases h; rw [unSs_ok e0, unSs_ok e1]; exact eqSs_tc c d
    · cases h
  · exact kWPr.call f args res h
theorem kWSs : KnOk Try.prog kwSs := ⟨kwSs_ok, eqTysOk, kWPr.callB⟩
set_option maxHeartbeats 8000000 in
theorem toSss_tc (l : List Ss) (hl : l.length ≤ 1048576) : TC Try.prog 129 [ro 4 (l.map Ss.tr)] [] 1 (.c (.own 1 0 l.length)) [(1, .arr 192 4 (l.map Ss.tr))] 2 := by
  refine tc_intro Try.func129 rfl 23 rfl (Nat.le_of_ble_eq_true rfl) (by decide) [2] rfl (by intro id x h; cases h) ?_
  intro w0 E0
  have kOk := kWSs
  have hp : (l.map Ss.tr).length = l.length := by simp
  refine wk1 ?_
  refine am_rs tabOk kOk rfl fun K Q1 hK => ?_
  refine go1 ?_
  refine ⟨⟨by omega, by unfold maxLen; omega⟩, ?_⟩
  refine hK _ ?_
  clear hK K Q1
  refine wk1 ?_
  refine am_tidy [(1, 1)] [0, 3, 4] 2 rfl ?_
  refine go1 ?_
  clear hp
  refine am_loop (l.length + 1) ?_
  suffices key : ∀ (d k : Nat), k + d = l.length → amR Try.prog _ _ _ (d + 1) ⟨[(0, ro 4 (l.map Ss.tr)), (3, .c (.own 1 0 l.length)), (4, int (k : Nat))], [(1, .arr 192 4 (half Ss.tr [Tree.v (Value.int IntKind.i64 0), Tree.v (Value.int IntKind.i64 0), Tree.v (Value.int IntKind.i64 0), Tree.v (Value.string { data := #[] })] l k))], 2⟩ from by
    have := key l.length 0 (by simp)
    rw [half_zero] at this
    exact this
  intro d
  induction d with
  | zero =>
    intro k hk
    have hp : (l.map Ss.tr).length = l.length := by simp
    refine amR_succ ?_
    refine wk1 ?_
    refine guardP_mk (fun h => ?_) (fun h => ?_)
    · simp at h; omega
    · refine go1 ?_
      refine wk1 ?_
      have hk' : k = l.length := hk
      subst hk'
      rw [half_all]
      refine am_retB [(1, 1)] rfl ?_ ?_ rfl <;> first | refine go ?_ | rfl
  | succ d ih =>
    intro k hk
    obtain ⟨e, he⟩ : ∃ e, l[k]? = some e := ⟨l[k]'(by omega), List.getElem?_eq_getElem (by omega)⟩
    have hp := (show (l.map Ss.tr).length = l.length ∧ (l.map Ss.tr)[k]? = some (Ss.tr e) ∧ (half Ss.tr [Tree.v (Value.int IntKind.i64 0), Tree.v (Value.int IntKind.i64 0), Tree.v (Value.int IntKind.i64 0), Tree.v (Value.string { data := #[] })] l k)[k]? = some [Tree.v (Value.int IntKind.i64 0), Tree.v (Value.int IntKind.i64 0), Tree.v (Value.int IntKind.i64 0), Tree.v (Value.string { data := #[] })] ∧ IntKind.i64.wrap ((k : Int) + 1) = ((k + 1 : Nat) : Int) ∧ (k < l.length) = True ∧ (half Ss.tr [Tree.v (Value.int IntKind.i64 0), Tree.v (Value.int IntKind.i64 0), Tree.v (Value.int IntKind.i64 0), Tree.v (Value.string { data := #[] })] l k).set k (Ss.tr e) = half Ss.tr [Tree.v (Value.int IntKind.i64 0), Tree.v (Value.int IntKind.i64 0), Tree.v (Value.int IntKind.i64 0), Tree.v (Value.string { data := #[] })] l (k + 1) from
      ⟨by simp, by rw [List.getElem?_map, he]; rfl, half_at (by omega), by rw [wrapN (by omega) (by omega)]; rfl, eq_true (by omega), half_set he⟩)
    obtain ⟨a, q, o, v⟩ := e
    simp only [Ss.tr] at hp
    refine amR_succ ?_
    refine wk1 ?_
    refine guardP_mk (fun h => ?_) (fun h => ?_)
    · refine go1 ?_
      refine wk1 ?_
      refine amR_tidy [(1, 1)] [0, 3, 4] 2 rfl ?_
      refine go1 ?_
      exact ih (k + 1) (by omega)
    · simp at h; omega
set_option maxHeartbeats 8000000 in
theorem eqSss_tc (l r : List Ss) (hl : l.length ≤ 1048576) : TC Try.prog 116 [ro 4 (l.map Ss.tr), ro 4 (r.map Ss.tr)] [] 1 (bool (decide (l = r))) [] 1 := by
  refine tc_intro Try.func116 rfl 27 rfl (Nat.le_of_ble_eq_true rfl) (by decide) [4] rfl (by intro id x h; cases h) ?_
  intro w0 E0
  have kOk := kWSs
  have hp : (l.map Ss.tr).length = l.length ∧ (r.map Ss.tr).length = r.length := by simp
  refine wk1 ?_
  refine guardP_mk (fun h => ?_) (fun h => ?_)
  · refine go1 ?_
    refine wk1 ?_
    refine am_retP rfl ?_ rfl
    refine go ?_
    have : ¬ l = r := fun e => by subst e; simp at h
    simp [this]
  have hlr : l.length = r.length := by simp at h; omega
  refine go1 ?_
  refine wk1 ?_
  refine am_tidy [] [0, 1, 5] 1 rfl ?_
  refine go1 ?_
  clear hp
  refine am_loop (l.length + 1) ?_
  suffices key : ∀ (d k : Nat), k + d = l.length → l.take k = r.take k → amR Try.prog _ _ _ (d + 1) ⟨[(0, ro 4 (l.map Ss.tr)), (1, ro 4 (r.map Ss.tr)), (5, int (k : Nat))], [], 1⟩ from key l.length 0 (by simp) rfl
  intro d
  induction d with
  | zero =>
    intro k hk ht
    have hp : (l.map Ss.tr).length = l.length := by simp
    refine amR_succ ?_
    refine wk1 ?_
    refine guardP_mk (fun h => ?_) (fun h => ?_)
    · simp at h; omega
    · refine go1 ?_
      refine wk1 ?_
      refine am_retP rfl ?_ rfl
      refine go ?_
      have : l = r := by rwa [List.take_of_length_le (by omega), List.take_of_length_le (by omega)] at ht
      simp [this]
  | succ d ih =>
    intro k hk ht
    obtain ⟨e, he⟩ : ∃ e, l[k]? = some e := ⟨l[k]'(by omega), List.getElem?_eq_getElem (by omega)⟩
    obtain ⟨e', he'⟩ : ∃ e', r[k]? = some e' := ⟨r[k]'(by omega), List.getElem?_eq_getElem (by omega)⟩
    have hp := (show (l.map Ss.tr).length = l.length ∧ (l.map Ss.tr)[k]? = some (Ss.tr e) ∧ (r.map Ss.tr)[k]? = some (Ss.tr e') ∧ IntKind.i64.wrap ((k : Int) + 1) = ((k + 1 : Nat) : Int) from
      ⟨by simp, by rw [List.getElem?_map, he]; rfl, by rw [List.getElem?_map, he']; rfl, by rw [wrapN (by omega) (by omega)]; rfl⟩)
    have hee : e = e' → l.take (k + 1) = r.take (k + 1) := fun h => by rw [List.take_add_one, List.take_add_one, ht, he, he', h]
    have hne : e ≠ e' → l ≠ r := fun hx h2 => by subst h2; rw [he] at he'; exact hx (Option.some.inj he')
    obtain ⟨a, q, o, v⟩ := e
    obtain ⟨a', q', o', v'⟩ := e'
    simp only [Ss.tr] at hp
    refine amR_succ ?_
    refine wk1 ?_
    refine guardP_mk (fun h => ?_) (fun h => ?_)
    · refine go1 ?_
      refine wk1 ?_
      refine guardP_mk (fun h => ?_) (fun h => ?_)
      · refine go1 ?_
        refine wk1 ?_
        refine am_retP rfl ?_ rfl
        refine go ?_
        have := hne (by intro hx; simp at h; simp_all)
        simp [this]
      · refine go1 ?_
        refine wk1 ?_
        refine amR_tidy [] [0, 1, 5] 1 rfl ?_
        refine go1 ?_
        exact ih (k + 1) (by omega) (hee (by simp at h; simp_all))
    · simp at h; omega
def szSs1 (e : Ss) (s : Int) : Int := if szSsF e s < 0 then -1 else szSsF e s
def szSsGo : List Ss → Int → Int
  | [], s => s
  | e :: l, s => if szSs1 e s < 0 then -1 else szSsGo l (szSs1 e s)
def szSssF (l : List Ss) (left : Int) : Int := if IntKind.i64.wrap (left - l.length) < 0 then -1 else szSsGo l (IntKind.i64.wrap (left - l.length))
theorem szSsGo_drop {l : List Ss} {k : Nat} {e : Ss} (h : l[k]? = some e) (s : Int) : szSsGo (l.drop k) s = if szSs1 e s < 0 then -1 else szSsGo (l.drop (k + 1)) (szSs1 e s) := by
  have hk := (List.getElem?_eq_some_iff.1 h).1
  rw [List.drop_eq_getElem_cons hk]
  have : l[k] = e := by rw [List.getElem?_eq_getElem hk] at h; exact Option.some.inj h
  simp only [szSsGo, this]
set_option maxHeartbeats 8000000 in
theorem szSss_tc (l : List Ss) (left : Int) (hl : l.length ≤ maxLen) : TC Try.prog 124 [ro 4 (l.map Ss.tr), int left] [] 1 (int (szSssF l left)) [] 1 := by
  refine tc_intro Try.func124 rfl 27 rfl (Nat.le_of_ble_eq_true rfl) (by decide) [4] rfl (by intro id x h; cases h) ?_
  intro w0 E0
  have kOk := kWSs
  unfold maxLen at hl
  have hp : (l.map Ss.tr).length = l.length := by simp
  refine wk1 ?_
  refine guardP_mk (fun h => ?_) (fun h => ?_)
  · refine go1 ?_
    refine wk1 ?_
    refine am_retP rfl ?_ rfl
    refine go ?_
    simp only [decide_eq_true_eq] at h
    simp only [szSssF, if_pos h]
  simp only [Bool.not_true, decide_eq_false_iff_not] at h
  have hs : szSssF l left = szSsGo l (IntKind.i64.wrap (left - l.length)) := by simp only [szSssF, if_neg h]
  rw [hs]
  refine go1 ?_
  refine wk1 ?_
  refine am_tidy [] [0, 1, 5] 1 rfl ?_
  refine go1 ?_
  clear hp
  refine am_loop (l.length + 1) ?_
  suffices key : ∀ (d k : Nat) (s : Int), k + d = l.length → szSsGo (l.drop k) s = szSsGo l (IntKind.i64.wrap (left - l.length)) → amR Try.prog _ _ _ (d + 1) ⟨[(0, ro 4 (l.map Ss.tr)), (1, int s), (5, int (k : Nat))], [], 1⟩ from key l.length 0 _ (by simp) rfl
  intro d
  induction d with
  | zero =>
    intro k s hk hf
    have hp : (l.map Ss.tr).length = l.length := by simp
    rw [List.drop_eq_nil_of_le (by omega)] at hf
    refine amR_succ ?_
    repeat' (fail_if_success (with_reducible apply amR_id)); first
      | (refine guardP_mk (fun h => ?_) (fun h => ?_) <;> (refine go1 ?_; try simp only [decide_eq_true_eq, decide_eq_false_iff_not, Bool.not_true, Bool.not_false, Bool.not_eq_true', Bool.not_eq_false', beq_iff_eq, bne_iff_ne, beq_eq_false_iff_ne, bne_eq_false_iff_eq, ne_eq, Bool.false_eq_true, reduceCtorEq] at h))
      | (refine hK _ ?_; clear hK K Q1)
      | (refine ⟨by first | omega | (simp only [List.length_map, List.length_append, List.length_cons, List.length_nil, List.length_replicate, List.length_drop, List.length_take]; omega), by unfold maxLen; first | omega | (simp only [List.length_map, List.length_append, List.length_cons, List.length_nil, List.length_replicate, List.length_drop, List.length_take]; omega), ?_⟩)
      | (refine hK _ _ rfl ?_; clear hK K; try refine go1 ?_)
      | (refine am_retP rfl ?_ rfl; first | refine go ?_ | rfl)
      | (refine am_retC [] rfl ?_ rfl rfl; first | refine go ?_ | rfl)
      | (refine wkq ?_)
      | (refine am_rs tabOk kOk rfl fun K Q1 hK => ?_; refine go1 ?_)
      | (refine am_reg tabOk kOk rfl fun K Q1 hK => ?_; refine go1 ?_)
      | (refine am_ds mixed tabOk kOk rfl rfl fun K hK => ?_; refine go1 ?_)
      | (refine am_dreg mixed tabOk kOk rfl rfl fun K hK => ?_; refine go1 ?_)
    all_goals first | (exfalso; omega) | (rw [← hf]; rfl)
  | succ d ih =>
    intro k s hk hf
    obtain ⟨e, he⟩ : ∃ e, l[k]? = some e := ⟨l[k]'(by omega), List.getElem?_eq_getElem (by omega)⟩
    rw [szSsGo_drop he] at hf
    have hp := (show (l.map Ss.tr).length = l.length ∧ (l.map Ss.tr)[k]? = some e.tr ∧ IntKind.i64.wrap ((k : Int) + 1) = ((k + 1 : Nat) : Int) from ⟨by simp, by rw [List.getElem?_map, he]; rfl, by rw [wrapN (by omega) (by omega)]; rfl⟩)
    have hz : szSs1 e s = if szSsF e s < 0 then -1 else szSsF e s := rfl
    obtain ⟨a, q, o, v⟩ := e
    simp only [Ss.tr] at hp
    refine amR_succ ?_
    repeat' (fail_if_success (with_reducible apply amR_id)); first
      | (refine guardP_mk (fun h => ?_) (fun h => ?_) <;> (refine go1 ?_; try simp only [decide_eq_true_eq, decide_eq_false_iff_not, Bool.not_true, Bool.not_false, Bool.not_eq_true', Bool.not_eq_false', beq_iff_eq, bne_iff_ne, beq_eq_false_iff_ne, bne_eq_false_iff_eq, ne_eq, Bool.false_eq_true, reduceCtorEq] at h))
      | (refine hK _ ?_; clear hK K Q1)
      | (refine ⟨by first | omega | (simp only [List.length_map, List.length_append, List.length_cons, List.length_nil, List.length_replicate, List.length_drop, List.length_take]; omega), by unfold maxLen; first | omega | (simp only [List.length_map, List.length_append, List.length_cons, List.length_nil, List.length_replicate, List.length_drop, List.length_take]; omega), ?_⟩)
      | (refine hK _ _ rfl ?_; clear hK K; try refine go1 ?_)
      | (refine am_retP rfl ?_ rfl; first | refine go ?_ | rfl)
      | (refine am_retC [] rfl ?_ rfl rfl; first | refine go ?_ | rfl)
      | (refine wkq ?_)
      | (refine am_rs tabOk kOk rfl fun K Q1 hK => ?_; refine go1 ?_)
      | (refine am_reg tabOk kOk rfl fun K Q1 hK => ?_; refine go1 ?_)
      | (refine am_ds mixed tabOk kOk rfl rfl fun K hK => ?_; refine go1 ?_)
      | (refine am_dreg mixed tabOk kOk rfl rfl fun K hK => ?_; refine go1 ?_)
    all_goals try (refine amR_tidy [] [0, 1, 5] 1 rfl ?_; refine go1 ?_; refine ih (k + 1) _ ?_ ?_)
    all_goals first | omega | (clear ih hp; simp only [TV.c.injEq, CV.t.injEq, Tree.v.injEq, Value.int.injEq, true_and]; rw [← hf]; simp only [szSs1] at *; grind) | (clear ih hp; simp only [szSs1] at *; grind) | (clear ih hp)
theorem szSss_len {l : List Ss} {left : Int} (h : l.length ≤ maxLen) (h1 : 0 ≤ left ∧ left ≤ 1048576) (h2 : ¬ szSssF l left < 0) : l.length ≤ 1048576 := by
  unfold maxLen at h
  unfold szSssF at h2
  split at h2
  · omega
  · rename_i h3
    rw [IntKind.wrap_i64] at h3
    omega
/-! marks -/
def mkSs (k : Int) : Ss := ⟨k, k + 1, k + 1 + 1, mtF (k + 1 + 1 + 1)⟩
def mkSss (n : Nat) (k : Int) : List Ss := (List.range n).map fun i => mkSs (k + 4 * (i : Nat))
theorem mkSss_len (n : Nat) (k : Int) : (mkSss n k).length = n := by simp [mkSss]
theorem mkSss_get {n i : Nat} (k : Int) (h : i < n) : (mkSss n k)[i]? = some (mkSs (k + 4 * (i : Nat))) := by simp [mkSss, h]
def ptSs (l : List Ss) (k : Int) (i : Nat) : List (List Tree) := (mkSss i k).map Ss.tr ++ (l.drop i).map Ss.tr
theorem ptSs_zero {l : List Ss} {k : Int} : ptSs l k 0 = l.map Ss.tr := by simp [ptSs, mkSss]
theorem ptSs_all {l : List Ss} {k : Int} : ptSs l k l.length = (mkSss l.length k).map Ss.tr := by simp [ptSs]
theorem ptSs_len {l : List Ss} {k : Int} {i : Nat} (h : i ≤ l.length) : (ptSs l k i).length = l.length := by simp [ptSs, mkSss_len]; omega
theorem ptSs_set {l : List Ss} {k : Int} {i : Nat} (h : i < l.length) : (ptSs l k i).set i (mkSs (k + 4 * (i : Nat))).tr = ptSs l k (i + 1) := by
  unfold ptSs
  have h1 : ((mkSss i k).map Ss.tr).length = i := by simp [mkSss_len]
  rw [List.set_append_right _ _ (by omega), h1, Nat.sub_self, List.drop_eq_getElem_cons h, List.map_cons, List.set_cons_zero]
  have h2 : mkSss (i + 1) k = mkSss i k ++ [mkSs (k + 4 * (i : Nat))] := by simp [mkSss, List.range_succ]
  rw [h2, List.map_append, List.append_assoc]
  rfl
theorem ptSs_at {l : List Ss} {k : Int} {i : Nat} {e : Ss} (h : l[i]? = some e) : (ptSs l k i)[i]? = some e.tr := by
  unfold ptSs
  have h1 : ((mkSss i k).map Ss.tr).length = i := by simp [mkSss_len]
  rw [List.getElem?_append_right (by omega), h1, Nat.sub_self, List.getElem?_map, List.getElem?_drop, Nat.add_zero, h]
  rfl
set_option maxHeartbeats 16000000 in
theorem markSss_tc (l : List Ss) (k : Int) (h0 : 0 ≤ k) (hk : k + 4 * l.length ≤ 1099511627776) : TC Try.prog 120 [.c (.own 1 0 l.length), int k] [(1, .arr 192 4 (l.map Ss.tr))] 2 (int (k + 4 * l.length)) [(1, .arr 192 4 ((mkSss l.length k).map Ss.tr))] 2 := by
  refine tc_intro Try.func120 rfl 42 rfl (Nat.le_of_ble_eq_true rfl) (by decide) [4] rfl dom1 ?_
  intro w0 E0
  have kOk := kWSs
  refine wk ?_
  refine am_tidy [(1, 1)] [0, 1, 5] 2 rfl ?_
  refine go ?_
  refine am_loop (l.length + 1) ?_
  suffices key : ∀ (d i : Nat) (c : Int), i + d = l.length → c = k + 4 * (i : Nat) → amR Try.prog _ _ _ (d + 1) ⟨[(0, .c (.own 1 0 l.length)), (1, int c), (5, int (i : Nat))], [(1, .arr 192 4 (ptSs l k i))], 2⟩ from by
    have := key l.length 0 k (by simp) (by simp)
    rw [ptSs_zero] at this
    exact this
  intro d
  induction d with
  | zero =>
    intro i c hi hc
    refine amR_succ ?_
    refine wk ?_
    refine guardP_mk (fun h => ?_) (fun h => ?_)
    · simp at h; omega
    · refine go ?_
      refine wk ?_
      have hi' : i = l.length := hi
      subst hi'
      rw [ptSs_all]
      subst hc
      refine am_retB [(1, 1)] rfl ?_ ?_ rfl <;> first | refine go ?_ | rfl
  | succ d ih =>
    intro i c hi hc
    obtain ⟨e, he⟩ : ∃ e, l[i]? = some e := ⟨l[i]'(by omega), List.getElem?_eq_getElem (by omega)⟩
    have hat := ptSs_at (k := k) he
    have hset := ptSs_set (k := k) (show i < l.length by omega)
    rw [← hc] at hset
    have hlen := ptSs_len (k := k) (show i ≤ l.length by omega)
    have hp := (show (ptSs l k i)[i]? = some e.tr ∧ (ptSs l k i).set i (mkSs c).tr = ptSs l k (i + 1) ∧ (∀ r : List Tree, ((ptSs l k i).set i r)[i]? = some r) ∧ (∀ r s : List Tree, ((ptSs l k i).set i r).set i s = (ptSs l k i).set i s) ∧
        IntKind.i64.wrap ((i : Int) + 1) = ((i + 1 : Nat) : Int) ∧ (i < l.length) = True ∧ IntKind.i64.wrap (c + 1) = c + 1 ∧ IntKind.i64.wrap (c + 1 + 1) = c + 1 + 1 ∧ IntKind.i64.wrap (c + 1 + 1 + 1) = c + 1 + 1 + 1 ∧ IntKind.i64.wrap (c + 1 + 1 + 1 + 1) = c + 1 + 1 + 1 + 1 ∧ (c + 1 + 1 + 1 ≤ 1152921504606846976) = True from
      ⟨hat, hset, fun r => by rw [List.getElem?_set_self (by omega)], fun r s => by rw [List.set_set], by rw [wrapN (by omega) (by omega)]; rfl, eq_true (by omega), wrapN (by omega) (by omega), wrapN (by omega) (by omega), wrapN (by omega) (by omega), wrapN (by omega) (by omega), eq_true (by omega)⟩)
    clear hat hset hlen
    obtain ⟨a, q, o, v⟩ := e
    simp only [Ss.tr, mkSs] at hp
    refine amR_succ ?_
    refine wk1 ?_
    refine guardP_mk (fun h => ?_) (fun h => ?_)
    · refine go1 ?_
      refine wk1 ?_
      refine amR_tidy [(1, 1)] [0, 1, 5] 2 rfl ?_
      refine go1 ?_
      exact ih (i + 1) _ (by omega) (by omega)
    · simp at h; omega
@[go_sem] theorem takeSs_mk {β : Type} (f : Ss → β) (n : Nat) (k : Int) : ((mkSss n k).map f).take n = (mkSss n k).map f := List.take_of_length_le (by simp [mkSss_len])
@[go_sem] theorem leSs_mk {β : Type} (f : Ss → β) (n : Nat) (k : Int) : (n ≤ ((mkSss n k).map f).length) = True := by simp [mkSss_len]
@[go_sem] theorem mkSs_self (n : Nat) (k : Int) : (mkSss n k = mkSss (mkSss n k).length k) = True := by simp [mkSss_len]
set_option maxHeartbeats 16000000 in
theorem heldSss_tc (n : Nat) (k : Int) (h0 : 0 ≤ k) (hk : k + 4 * (n : Nat) ≤ 1099511627776) : TC Try.prog 122 [ro 4 ((mkSss n k).map Ss.tr), int k] [] 1 (int (k + 4 * (n : Nat))) [] 1 := by
  refine tc_intro Try.func122 rfl 50 rfl (Nat.le_of_ble_eq_true rfl) (by decide) [4] rfl (by intro id x h; cases h) ?_
  intro w0 E0
  have kOk := kWSs
  refine wk ?_
  refine am_tidy [] [0, 1, 5] 1 rfl ?_
  refine go ?_
  refine am_loop (n + 1) ?_
  suffices key : ∀ (d i : Nat) (c : Int), i + d = n → c = k + 4 * (i : Nat) → amR Try.prog _ _ _ (d + 1) ⟨[(0, ro 4 ((mkSss n k).map Ss.tr)), (1, int c), (5, int (i : Nat))], [], 1⟩ from key n 0 k (by simp) (by simp)
  intro d
  induction d with
  | zero =>
    intro i c hi hc
    have hp : ((mkSss n k).map Ss.tr).length = n := by simp [mkSss_len]
    refine amR_succ ?_
    refine wk1 ?_
    refine guardP_mk (fun h => ?_) (fun h => ?_)
    · simp at h; omega
    · refine go1 ?_
      refine wk1 ?_
      have hi' : i = n := hi
      subst hi'
      subst hc
      refine am_retP rfl ?_ rfl
      first | refine go ?_ | rfl
  | succ d ih =>
    intro i c hi hc
    have hat : ((mkSss n k).map Ss.tr)[i]? = some (mkSs c).tr := by rw [List.getElem?_map, mkSss_get k (by omega), hc]; rfl
    have hp := (show ((mkSss n k).map Ss.tr).length = n ∧ ((mkSss n k).map Ss.tr)[i]? = some (mkSs c).tr ∧
        IntKind.i64.wrap ((i : Int) + 1) = ((i + 1 : Nat) : Int) ∧ (∀ x : Int, (x != x) = false) ∧ IntKind.i64.wrap (c + 1) = c + 1 ∧ IntKind.i64.wrap (c + 1 + 1) = c + 1 + 1 ∧ IntKind.i64.wrap (c + 1 + 1 + 1) = c + 1 + 1 + 1 ∧ IntKind.i64.wrap (c + 1 + 1 + 1 + 1) = c + 1 + 1 + 1 + 1 ∧ (c + 1 + 1 + 1 ≤ 1152921504606846976) = True from
      ⟨by simp [mkSss_len], hat, by rw [wrapN (by omega) (by omega)]; rfl, fun x => by simp, wrapN (by omega) (by omega), wrapN (by omega) (by omega), wrapN (by omega) (by omega), wrapN (by omega) (by omega), eq_true (by omega)⟩)
    clear hat
    simp only [Ss.tr, mkSs] at hp
    refine amR_succ ?_
    refine wk1 ?_
    refine guardP_mk (fun h => ?_) (fun h => ?_)
    · refine go1 ?_
      refine wk1 ?_
      refine amR_tidy [] [0, 1, 5] 1 rfl ?_
      refine go1 ?_
      exact ih (i + 1) _ (by omega) (by omega)
    · simp at h; omega
theorem markSs0_tc (k : Int) : TC Try.prog 120 [lit (.slice none 0 0), int k] [] 1 (int k) [] 1 := by
  refine tc_intro Try.func120 rfl 42 rfl (Nat.le_of_ble_eq_true rfl) (by decide) [4] rfl (by intro id x h; cases h) ?_
  intro w0 E0
  have kOk := kWSs
  refine wk ?_
  refine am_loop 1 (amR_succ ?_)
  repeat' (fail_if_success (with_reducible apply amR_id)); first
    | (refine guardP_mk (fun h => ?_) (fun h => ?_) <;> (refine go ?_; try simp only [decide_eq_true_eq, decide_eq_false_iff_not, Bool.not_true, Bool.not_false, Bool.not_eq_true', Bool.not_eq_false', beq_iff_eq, bne_iff_ne, beq_eq_false_iff_ne, bne_eq_false_iff_eq, ne_eq, Bool.false_eq_true, reduceCtorEq] at h))
    | (refine hK _ ?_; clear hK K Q1)
    | (refine ⟨by first | omega | (simp only [List.length_map, List.length_append, List.length_cons, List.length_nil, List.length_replicate, List.length_drop, List.length_take]; omega), by unfold maxLen; first | omega | (simp only [List.length_map, List.length_append, List.length_cons, List.length_nil, List.length_replicate, List.length_drop, List.length_take]; omega), ?_⟩)
    | (refine hK _ _ rfl ?_; clear hK K; try refine go ?_)
    | (refine am_retP rfl ?_ rfl; first | refine go ?_ | rfl)
    | (refine am_retC [] rfl ?_ rfl rfl; first | refine go ?_ | rfl)
    | (refine wkp ?_)
    | (refine am_rs tabOk kOk rfl fun K Q1 hK => ?_; refine go ?_)
    | (refine am_reg tabOk kOk rfl fun K Q1 hK => ?_; refine go ?_)
    | (refine am_ds mixed tabOk kOk rfl rfl fun K hK => ?_; refine go ?_)
    | (refine am_dreg mixed tabOk kOk rfl rfl fun K hK => ?_; refine go ?_)
  all_goals first | rfl | (exfalso; omega)
theorem heldSs0_tc (k : Int) : TC Try.prog 122 [lit (.slice none 0 0), int k] [] 1 (int k) [] 1 := by
  refine tc_intro Try.func122 rfl 50 rfl (Nat.le_of_ble_eq_true rfl) (by decide) [4] rfl (by intro id x h; cases h) ?_
  intro w0 E0
  have kOk := kWSs
  refine wk ?_
  refine am_loop 1 (amR_succ ?_)
  repeat' (fail_if_success (with_reducible apply amR_id)); first
    | (refine guardP_mk (fun h => ?_) (fun h => ?_) <;> (refine go ?_; try simp only [decide_eq_true_eq, decide_eq_false_iff_not, Bool.not_true, Bool.not_false, Bool.not_eq_true', Bool.not_eq_false', beq_iff_eq, bne_iff_ne, beq_eq_false_iff_ne, bne_eq_false_iff_eq, ne_eq, Bool.false_eq_true, reduceCtorEq] at h))
    | (refine hK _ ?_; clear hK K Q1)
    | (refine ⟨by first | omega | (simp only [List.length_map, List.length_append, List.length_cons, List.length_nil, List.length_replicate, List.length_drop, List.length_take]; omega), by unfold maxLen; first | omega | (simp only [List.length_map, List.length_append, List.length_cons, List.length_nil, List.length_replicate, List.length_drop, List.length_take]; omega), ?_⟩)
    | (refine hK _ _ rfl ?_; clear hK K; try refine go ?_)
    | (refine am_retP rfl ?_ rfl; first | refine go ?_ | rfl)
    | (refine am_retC [] rfl ?_ rfl rfl; first | refine go ?_ | rfl)
    | (refine wkp ?_)
    | (refine am_rs tabOk kOk rfl fun K Q1 hK => ?_; refine go ?_)
    | (refine am_reg tabOk kOk rfl fun K Q1 hK => ?_; refine go ?_)
    | (refine am_ds mixed tabOk kOk rfl rfl fun K hK => ?_; refine go ?_)
    | (refine am_dreg mixed tabOk kOk rfl rfl fun K hK => ?_; refine go ?_)
  all_goals first | rfl | (exfalso; omega)
theorem eqSs0_tc : TC Try.prog 116 [lit (.slice none 0 0), lit (.slice none 0 0)] [] 1 (bool true) [] 1 := by
  refine tc_args (eqSss_tc [] [] (by simp)) fun E w vs hvs => ?_
  match vs, hvs with
  | [a, b], ⟨k1, k2, _⟩ => exact ⟨nil_sl 4 k1, nil_sl 4 k2, trivial⟩
end Go.Proofs.YthnpbfljoghbmaaA
