/- Disks written to: the law holds at every argument. -/
import Derived.Test.YtaolgdpkcbfocaaDoorGDk2
namespace Go.Proofs.YtaolgdpkcbfocaaDoorA
open Go.Proofs
set_option autoImplicit false
set_option linter.unusedVariables false
set_option linter.unusedSimpArgs false
set_option maxRecDepth 4000
theorem eqBs00_tc : TC Tryd.prog 13 [lit (.slice none 0 0), lit (.slice none 0 0)] [] 1 (bool true) [] 1 := by
  refine tc_intro Tryd.func13 rfl 26 rfl (Nat.le_of_ble_eq_true rfl) (by decide) [4] rfl (by intro id x h; cases h) ?_
  intro w0 E0
  have kOk := k54
  refine hd ?_
  repeat' (fail_if_success (with_reducible apply amR_id)); first
    | (refine guardP_mk (fun h => ?_) (fun h => ?_) <;> (refine go ?_; try simp only [decide_eq_true_eq, decide_eq_false_iff_not, Bool.not_true, Bool.not_false, Bool.not_eq_true', Bool.not_eq_false', beq_iff_eq, bne_iff_ne, beq_eq_false_iff_ne, bne_eq_false_iff_eq, ne_eq, Bool.false_eq_true, reduceCtorEq] at h))
    | (refine hK _ ?_; clear hK K Q1)
    | (refine ⟨by first | omega | (simp only [List.length_map, List.length_append, List.length_cons, List.length_nil, List.length_replicate, List.length_drop, List.length_take]; omega), by unfold maxLen; first | omega | (simp only [List.length_map, List.length_append, List.length_cons, List.length_nil, List.length_replicate, List.length_drop, List.length_take]; omega), ?_⟩)
    | (refine hK _ _ rfl ?_; clear hK K; try refine go ?_)
    | (refine am_retP rfl ?_ rfl; first | refine go ?_ | rfl)
    | (refine am_retC [] rfl ?_ rfl rfl; first | refine go ?_ | rfl)
    | (refine wkp ?_)
    | (refine am_rs tabOk kOk rfl fun K Q1 hK => ?_; refine go ?_)
    | (refine am_reg tabOk kOk rfl fun K Q1 hK => ?_; refine go ?_)
    | (refine am_ds mixed tabOk kOk rfl rfl fun K hK => ?_; refine go ?_)
    | (refine am_dreg mixed tabOk kOk rfl rfl fun K hK => ?_; refine go ?_)
  all_goals try (exfalso; simp at *; done)
  all_goals refine am_loop 1 (amR_succ ?_)
  repeat' (fail_if_success (with_reducible apply amR_id)); first
    | (refine guardP_mk (fun h => ?_) (fun h => ?_) <;> (refine go ?_; try simp only [decide_eq_true_eq, decide_eq_false_iff_not, Bool.not_true, Bool.not_false, Bool.not_eq_true', Bool.not_eq_false', beq_iff_eq, bne_iff_ne, beq_eq_false_iff_ne, bne_eq_false_iff_eq, ne_eq, Bool.false_eq_true, reduceCtorEq] at h))
    | (refine hK _ ?_; clear hK K Q1)
    | (refine ⟨by first | omega | (simp only [List.length_map, List.length_append, List.length_cons, List.length_nil, List.length_replicate, List.length_drop, List.length_take]; omega), by unfold maxLen; first | omega | (simp only [List.length_map, List.length_append, List.length_cons, List.length_nil, List.length_replicate, List.length_drop, List.length_take]; omega), ?_⟩)
    | (refine hK _ _ rfl ?_; clear hK K; try refine go ?_)
    | (refine am_retP rfl ?_ rfl; first | refine go ?_ | rfl)
    | (refine am_retC [] rfl ?_ rfl rfl; first | refine go ?_ | rfl)
    | (refine wkp ?_)
    | (refine am_rs tabOk kOk rfl fun K Q1 hK => ?_; refine go ?_)
    | (refine am_reg tabOk kOk rfl fun K Q1 hK => ?_; refine go ?_)
    | (refine am_ds mixed tabOk kOk rfl rfl fun K hK => ?_; refine go ?_)
    | (refine am_dreg mixed tabOk kOk rfl rfl fun K hK => ?_; refine go ?_)
  all_goals first | rfl | (exfalso; omega) | (exfalso; simp at *; done)
set_option maxHeartbeats 8000000 in
theorem toBys_tc (l : List Int) (hl : l.length ≤ 1048576) : TC Tryd.prog 69 [ro 1 (l.map bTr)] [] 1 (.c (.own 1 0 l.length)) [(1, .arr 5 1 (l.map bTr))] 2 := by
  refine tc_intro Tryd.func69 rfl 22 rfl (Nat.le_of_ble_eq_true rfl) (by decide) [2] rfl (by intro id x h; cases h) ?_
  intro w0 E0
  have kOk := k115
  have hp : (l.map bTr).length = l.length := by simp
  refine wk1 ?_
  refine am_rs tabOk kOk rfl fun K Q1 hK => ?_
  refine go1 ?_
  refine ⟨⟨by omega, by unfold maxLen; omega⟩, ?_⟩
  refine hK _ ?_
  clear hK K Q1
  refine wk1 ?_
  refine am_tidy [(1, 1)] [0, 3, 4] 2 rfl ?_
  refine go1 ?_
  clear hp
  refine am_loop (l.length + 1) ?_
  suffices key : ∀ (d k : Nat), k + d = l.length → amR Tryd.prog _ _ _ (d + 1) ⟨[(0, ro 1 (l.map bTr)), (3, .c (.own 1 0 l.length)), (4, int (k : Nat))], [(1, .arr 5 1 (half bTr [Tree.v (Value.int IntKind.u8 0)] l k))], 2⟩ from by
    have := key l.length 0 (by simp)
    rw [half_zero] at this
    exact this
  intro d
  induction d with
  | zero =>
    intro k hk
    have hp : (l.map bTr).length = l.length := by simp
    refine amR_succ ?_
    refine wk1 ?_
    refine guardP_mk (fun h => ?_) (fun h => ?_)
    · simp at h; omega
    · refine go1 ?_
      refine wk1 ?_
      have hk' : k = l.length := hk
      subst hk'
      rw [half_all]
      refine am_retB [(1, 1)] rfl ?_ ?_ rfl <;> first | refine go ?_ | rfl
  | succ d ih =>
    intro k hk
    obtain ⟨e, he⟩ : ∃ e, l[k]? = some e := ⟨l[k]'(by omega), List.getElem?_eq_getElem (by omega)⟩
    have hp := (show (l.map bTr).length = l.length ∧ (l.map bTr)[k]? = some (bTr e) ∧ (half bTr [Tree.v (Value.int IntKind.u8 0)] l k)[k]? = some [Tree.v (Value.int IntKind.u8 0)] ∧ IntKind.i64.wrap ((k : Int) + 1) = ((k + 1 : Nat) : Int) ∧ (k < l.length) = True ∧ (half bTr [Tree.v (Value.int IntKind.u8 0)] l k).set k (bTr e) = half bTr [Tree.v (Value.int IntKind.u8 0)] l (k + 1) from
      ⟨by simp, by rw [List.getElem?_map, he]; rfl, half_at (by omega), by rw [wrapN (by omega) (by omega)]; rfl, eq_true (by omega), half_set he⟩)
    obtain e := e
    simp only [bTr] at hp
    refine amR_succ ?_
    refine wk1 ?_
    refine guardP_mk (fun h => ?_) (fun h => ?_)
    · refine go1 ?_
      refine wk1 ?_
      refine amR_tidy [(1, 1)] [0, 3, 4] 2 rfl ?_
      refine go1 ?_
      exact ih (k + 1) (by omega)
    · simp at h; omega
theorem szBys_tc (l : List Int) (left : Int) (hl : l.length ≤ maxLen) : TC Tryd.prog 66 [ro 1 (l.map bTr), int left] [] 1 (int (lft left l.length)) [] 1 := by
  refine tc_intro Tryd.func66 rfl 12 rfl (Nat.le_of_ble_eq_true rfl) (by decide) [4] rfl (by intro id x h; cases h) ?_
  intro w0 E0
  have kOk := k115
  repeat' (fail_if_success (with_reducible apply amR_id)); first
    | (refine guardP_mk (fun h => ?_) (fun h => ?_) <;> (refine go ?_; try simp only [decide_eq_true_eq, decide_eq_false_iff_not, Bool.not_true, Bool.not_false, Bool.not_eq_true', Bool.not_eq_false', beq_iff_eq, bne_iff_ne, beq_eq_false_iff_ne, bne_eq_false_iff_eq, ne_eq, Bool.false_eq_true, reduceCtorEq] at h))
    | (refine hK _ ?_; clear hK K Q1)
    | (refine ⟨by first | omega | (simp only [List.length_map, List.length_append, List.length_cons, List.length_nil, List.length_replicate, List.length_drop, List.length_take]; omega), by unfold maxLen; first | omega | (simp only [List.length_map, List.length_append, List.length_cons, List.length_nil, List.length_replicate, List.length_drop, List.length_take]; omega), ?_⟩)
    | (refine hK _ _ rfl ?_; clear hK K; try refine go ?_)
    | (refine am_retP rfl ?_ rfl; first | refine go ?_ | rfl)
    | (refine am_retC [] rfl ?_ rfl rfl; first | refine go ?_ | rfl)
    | (refine wkp ?_)
    | (refine am_rs tabOk kOk rfl fun K Q1 hK => ?_; refine go ?_)
    | (refine am_reg tabOk kOk rfl fun K Q1 hK => ?_; refine go ?_)
    | (refine am_ds mixed tabOk kOk rfl rfl fun K hK => ?_; refine go ?_)
    | (refine am_dreg mixed tabOk kOk rfl rfl fun K hK => ?_; refine go ?_)
  all_goals (simp only [lft]; simp (disch := omega) only [if_pos, if_neg]; try rfl)
def kn116_0_1 (n : Int) (l : List Int) : Option TV := if l.length ≤ maxLen then some (int (lft n l.length)) else none
def kn116_0_0 (n : Int) (r0 : List (List Tree)) : Option TV := (unBys r0).bind (kn116_0_1 n)
def kn116_0 : List TV → Option TV
  | [.c (.t (.sl 1 r0)), .c (.t (.v (.int .i64 n)))] => kn116_0_0 n r0
  | _ => none
def kn116_1_0  : Option TV := some (bool true)
def kn116_1 : List TV → Option TV
  | [.c (.t (.v (.slice none 0 0))), .c (.t (.v (.slice none 0 0)))] => kn116_1_0
  | _ => none
def kn116_call (f : FuncId) (args : List TV) : Option TV := if f = 66 then orO (kn116_0 args) (kn115.call f args) else if f = 13 then orO (kn116_1 args) (kn115.call f args) else kn115.call f args
def kn116 : Kn := { call := kn116_call, eqs := eqTys, callB := kn115.callB }
attribute [go_sem] kn116_0_0 kn116_0_1 kn116_0 kn116_1_0 kn116_1 kn116_call kn116
theorem kn116_ok : ∀ f args res, kn116_call f args = some res → TC Tryd.prog f args [] 1 res [] 1 := by
  intro f args res h
  unfold kn116_call at h
  split at h
  · rename_i e; subst e
    have hh := orO_elim h
    clear h
    rcases hh with h | h
    rotate_left
    · exact k115.call _ _ _ h
    unfold kn116_0 at h
    split at h
    · rename_i r0 n; unfold kn116_0_0 at h
      obtain ⟨l, e0, h⟩ := Option.bind_eq_some_iff.1 h
      unfold kn116_0_1 at h
      split at h
      · rename_i hc; cases h; rw [unBys_ok e0]; exact szBys_tc l n hc
      · cases h
    · cases h
  split at h
  · rename_i e; subst e
    have hh := orO_elim h
    clear h
    rcases hh with h | h
    rotate_left
    · exact k115.call _ _ _ h
    unfold kn116_1 at h
    split at h
    · unfold kn116_1_0 at h
      cases h; exact eqBs00_tc
    · cases h
  · exact k115.call f args res h
theorem k116 : KnOk Tryd.prog kn116 := ⟨kn116_ok, eqTysOk, k115.callB⟩
def kn117_0_1 (l : List Int) : CB := if l.length ≤ 1048576 then some (.c (.own 1 0 l.length), [(1, .arr 5 1 (l.map bTr))], 2) else none
def kn117_0_0 (r0 : List (List Tree)) : CB := (unBys r0).bind (kn117_0_1)
def kn117_0 : List TV → List (Nat × AObj) → CB
  | [.c (.t (.sl 1 r0))], [] => kn117_0_0 r0
  | _, _ => none
def kn117_call (f : FuncId) (args : List TV) (o : List (Nat × AObj)) : CB := if f = 69 then orO (kn117_0 args o) (kn116.callB f args o) else kn116.callB f args o
def kn117 : Kn := { call := kn116.call, eqs := eqTys, callB := kn117_call }
attribute [go_sem] kn117_0_0 kn117_0_1 kn117_0 kn117_call kn117
theorem kn117_ok : ∀ f args o res o1 n1, kn117_call f args o = some (res, o1, n1) → TC Tryd.prog f args o (o.length + 1) res o1 n1 := by
  intro f args o res o1 n1 h
  unfold kn117_call at h
  split at h
  · rename_i e; subst e
    have hh := orO_elim h
    clear h
    rcases hh with h | h
    rotate_left
    · exact k116.callB _ _ _ _ _ _ h
    unfold kn117_0 at h
    split at h
    · rename_i r0; unfold kn117_0_0 at h
      have hb0 := Option.bind_eq_some_iff.1 h
      clear h
      obtain ⟨l, e0, h⟩ := hb0
      unfold kn117_0_1 at h
      split at h
      · rename_i hc; cases h; rw [unBys_ok e0]; exact toBys_tc l hc
      · cases h
    · cases h
  · exact k116.callB f args o res o1 n1 h
theorem k117 : KnOk Tryd.prog kn117 := ⟨k116.call, eqTysOk, kn117_ok⟩
theorem szDk_tc (d : Dk) (left : Int) (hl : d.data.length ≤ maxLen) : TC Tryd.prog 32 [.agg d.cv, int left] [] 1 (int (if lft left d.data.length < 0 then -1 else lft left d.data.length)) [] 1 := by
  refine tc_intro Tryd.func32 rfl 12 rfl (Nat.le_of_ble_eq_true rfl) (by decide) [4] rfl (by intro id x h; cases h) ?_
  intro w0 E0
  have kOk := k117
  obtain ⟨c, s, l⟩ := d
  have hp : (l.length ≤ maxLen) = True := eq_true hl
  simp only [Dk.cv]
  repeat' (fail_if_success (with_reducible apply amR_id)); first
    | (refine guardP_mk (fun h => ?_) (fun h => ?_) <;> (refine go1 ?_; try simp only [decide_eq_true_eq, decide_eq_false_iff_not, Bool.not_true, Bool.not_false, Bool.not_eq_true', Bool.not_eq_false', beq_iff_eq, bne_iff_ne, beq_eq_false_iff_ne, bne_eq_false_iff_eq, ne_eq, Bool.false_eq_true, reduceCtorEq] at h))
    | (refine hK _ ?_; clear hK K Q1)
    | (refine ⟨by first | omega | (simp only [List.length_map, List.length_append, List.length_cons, List.length_nil, List.length_replicate, List.length_drop, List.length_take]; omega), by unfold maxLen; first | omega | (simp only [List.length_map, List.length_append, List.length_cons, List.length_nil, List.length_replicate, List.length_drop, List.length_take]; omega), ?_⟩)
    | (refine hK _ _ rfl ?_; clear hK K; try refine go1 ?_)
    | (refine am_retP rfl ?_ rfl; first | refine go ?_ | rfl)
    | (refine am_retC [] rfl ?_ rfl rfl; first | refine go ?_ | rfl)
    | (refine wkq ?_)
    | (refine am_rs tabOk kOk rfl fun K Q1 hK => ?_; refine go1 ?_)
    | (refine am_reg tabOk kOk rfl fun K Q1 hK => ?_; refine go1 ?_)
    | (refine am_ds mixed tabOk kOk rfl rfl fun K hK => ?_; refine go1 ?_)
    | (refine am_dreg mixed tabOk kOk rfl rfl fun K hK => ?_; refine go1 ?_)
  all_goals (simp (disch := omega) only [if_pos, if_neg]; try rfl)
theorem toDk_tc (d : Dk) (hl : d.data.length ≤ 1048576) : TC Tryd.prog 34 [.agg d.cv] [] 1 (.agg [ci d.cap, ci d.syn, .own 1 0 d.data.length]) [(1, .arr 5 1 (d.data.map bTr))] 2 := by
  refine tc_cell tabOk Tryd.func34 rfl 15 rfl (Nat.le_of_ble_eq_true rfl) (by decide) [(2, some 62)] rfl (by intro id x h; cases h) ?_
  intro w0 E0
  have kOk := k117
  obtain ⟨c, s, l⟩ := d
  have hp : (l.length ≤ 1048576) = True := eq_true hl
  simp only [Dk.cv]
  refine wk1 ?_
  refine am_retC [(4, 1)] rfl ?_ rfl rfl
  first | refine go ?_ | rfl
theorem eqDk_tc (c d : Dk) (hl : c.data.length ≤ 1073741824) : TC Tryd.prog 37 [.agg c.cv, .agg d.cv] [] 1 (bool (decide (c = d))) [] 1 := by
  refine tc_intro Tryd.func37 rfl 21 rfl (Nat.le_of_ble_eq_true rfl) (by decide) [4] rfl (by intro id x h; cases h) ?_
  intro w0 E0
  have kOk := k117
  obtain ⟨c, s, l⟩ := c
  obtain ⟨c', s', l'⟩ := d
  have hp : (l.length ≤ 1073741824) = True := eq_true hl
  simp only [Dk.cv]
  repeat' (fail_if_success (with_reducible apply amR_id)); first
    | (refine guardP_mk (fun h => ?_) (fun h => ?_) <;> (refine go1 ?_; try simp only [decide_eq_true_eq, decide_eq_false_iff_not, Bool.not_true, Bool.not_false, Bool.not_eq_true', Bool.not_eq_false', beq_iff_eq, bne_iff_ne, beq_eq_false_iff_ne, bne_eq_false_iff_eq, ne_eq, Bool.false_eq_true, reduceCtorEq] at h))
    | (refine hK _ ?_; clear hK K Q1)
    | (refine ⟨by first | omega | (simp only [List.length_map, List.length_append, List.length_cons, List.length_nil, List.length_replicate, List.length_drop, List.length_take]; omega), by unfold maxLen; first | omega | (simp only [List.length_map, List.length_append, List.length_cons, List.length_nil, List.length_replicate, List.length_drop, List.length_take]; omega), ?_⟩)
    | (refine hK _ _ rfl ?_; clear hK K; try refine go1 ?_)
    | (refine am_retP rfl ?_ rfl; first | refine go ?_ | rfl)
    | (refine am_retC [] rfl ?_ rfl rfl; first | refine go ?_ | rfl)
    | (refine wkq ?_)
    | (refine am_rs tabOk kOk rfl fun K Q1 hK => ?_; refine go1 ?_)
    | (refine am_reg tabOk kOk rfl fun K Q1 hK => ?_; refine go1 ?_)
    | (refine am_ds mixed tabOk kOk rfl rfl fun K hK => ?_; refine go1 ?_)
    | (refine am_dreg mixed tabOk kOk rfl rfl fun K hK => ?_; refine go1 ?_)
  all_goals simp_all
theorem eqDk0_tc (a b : Int) : TC Tryd.prog 37 [.agg [ci a, ci b, .t (.v (.slice none 0 0))], .agg [ci a, ci b, .t (.v (.slice none 0 0))]] [] 1 (bool true) [] 1 := by
  refine tc_intro Tryd.func37 rfl 21 rfl (Nat.le_of_ble_eq_true rfl) (by decide) [4] rfl (by intro id x h; cases h) ?_
  intro w0 E0
  have kOk := k117
  have hp := (show ∀ x : Int, (x != x) = false from fun x => by simp)
  repeat' (fail_if_success (with_reducible apply amR_id)); first
    | (refine guardP_mk (fun h => ?_) (fun h => ?_) <;> (refine go1 ?_; try simp only [decide_eq_true_eq, decide_eq_false_iff_not, Bool.not_true, Bool.not_false, Bool.not_eq_true', Bool.not_eq_false', beq_iff_eq, bne_iff_ne, beq_eq_false_iff_ne, bne_eq_false_iff_eq, ne_eq, Bool.false_eq_true, reduceCtorEq] at h))
    | (refine hK _ ?_; clear hK K Q1)
    | (refine ⟨by first | omega | (simp only [List.length_map, List.length_append, List.length_cons, List.length_nil, List.length_replicate, List.length_drop, List.length_take]; omega), by unfold maxLen; first | omega | (simp only [List.length_map, List.length_append, List.length_cons, List.length_nil, List.length_replicate, List.length_drop, List.length_take]; omega), ?_⟩)
    | (refine hK _ _ rfl ?_; clear hK K; try refine go1 ?_)
    | (refine am_retP rfl ?_ rfl; first | refine go ?_ | rfl)
    | (refine am_retC [] rfl ?_ rfl rfl; first | refine go ?_ | rfl)
    | (refine wkq ?_)
    | (refine am_rs tabOk kOk rfl fun K Q1 hK => ?_; refine go1 ?_)
    | (refine am_reg tabOk kOk rfl fun K Q1 hK => ?_; refine go1 ?_)
    | (refine am_ds mixed tabOk kOk rfl rfl fun K hK => ?_; refine go1 ?_)
    | (refine am_dreg mixed tabOk kOk rfl rfl fun K hK => ?_; refine go1 ?_)
  all_goals rfl
theorem heldDk_tc (d : Dk) (k : Int) (h : d.data = mkBs d.data.length k) (h0 : 0 ≤ k) (hk : k + (d.data.length : Nat) ≤ 1099511627776) : TC Tryd.prog 74 [.agg d.cv, int k] [] 1 (int (k + (d.data.length : Nat))) [] 1 := by
  refine tc_intro Tryd.func74 rfl 12 rfl (Nat.le_of_ble_eq_true rfl) (by decide) [4] rfl (by intro id x h; cases h) ?_
  intro w0 E0
  have kOk := k117
  obtain ⟨c, s, l⟩ := d
  have hp : (l = mkBs l.length k) = True ∧ (0 ≤ k) = True ∧ (k + (l.length : Nat) ≤ 1099511627776) = True ∧ (k + (l.length : Int) < 0) = False := ⟨eq_true h, eq_true h0, eq_true hk, eq_false (by omega)⟩
  simp only [Dk.cv]
  repeat' (fail_if_success (with_reducible apply amR_id)); first
    | (refine guardP_mk (fun h => ?_) (fun h => ?_) <;> (refine go1 ?_; try simp only [decide_eq_true_eq, decide_eq_false_iff_not, Bool.not_true, Bool.not_false, Bool.not_eq_true', Bool.not_eq_false', beq_iff_eq, bne_iff_ne, beq_eq_false_iff_ne, bne_eq_false_iff_eq, ne_eq, Bool.false_eq_true, reduceCtorEq] at h))
    | (refine hK _ ?_; clear hK K Q1)
    | (refine ⟨by first | omega | (simp only [List.length_map, List.length_append, List.length_cons, List.length_nil, List.length_replicate, List.length_drop, List.length_take]; omega), by unfold maxLen; first | omega | (simp only [List.length_map, List.length_append, List.length_cons, List.length_nil, List.length_replicate, List.length_drop, List.length_take]; omega), ?_⟩)
    | (refine hK _ _ rfl ?_; clear hK K; try refine go1 ?_)
    | (refine am_retP rfl ?_ rfl; first | refine go ?_ | rfl)
    | (refine am_retC [] rfl ?_ rfl rfl; first | refine go ?_ | rfl)
    | (refine wkq ?_)
    | (refine am_rs tabOk kOk rfl fun K Q1 hK => ?_; refine go1 ?_)
    | (refine am_reg tabOk kOk rfl fun K Q1 hK => ?_; refine go1 ?_)
    | (refine am_ds mixed tabOk kOk rfl rfl fun K hK => ?_; refine go1 ?_)
    | (refine am_dreg mixed tabOk kOk rfl rfl fun K hK => ?_; refine go1 ?_)
  all_goals rfl
theorem heldDk0_tc (a b k : Int) (h0 : 0 ≤ k) : TC Tryd.prog 74 [.agg [ci a, ci b, .t (.v (.slice none 0 0))], int k] [] 1 (int k) [] 1 := by
  refine tc_intro Tryd.func74 rfl 12 rfl (Nat.le_of_ble_eq_true rfl) (by decide) [4] rfl (by intro id x h; cases h) ?_
  intro w0 E0
  have kOk := k117
  have hp : (k < 0) = False := eq_false (by omega)
  repeat' (fail_if_success (with_reducible apply amR_id)); first
    | (refine guardP_mk (fun h => ?_) (fun h => ?_) <;> (refine go1 ?_; try simp only [decide_eq_true_eq, decide_eq_false_iff_not, Bool.not_true, Bool.not_false, Bool.not_eq_true', Bool.not_eq_false', beq_iff_eq, bne_iff_ne, beq_eq_false_iff_ne, bne_eq_false_iff_eq, ne_eq, Bool.false_eq_true, reduceCtorEq] at h))
    | (refine hK _ ?_; clear hK K Q1)
    | (refine ⟨by first | omega | (simp only [List.length_map, List.length_append, List.length_cons, List.length_nil, List.length_replicate, List.length_drop, List.length_take]; omega), by unfold maxLen; first | omega | (simp only [List.length_map, List.length_append, List.length_cons, List.length_nil, List.length_replicate, List.length_drop, List.length_take]; omega), ?_⟩)
    | (refine hK _ _ rfl ?_; clear hK K; try refine go1 ?_)
    | (refine am_retP rfl ?_ rfl; first | refine go ?_ | rfl)
    | (refine am_retC [] rfl ?_ rfl rfl; first | refine go ?_ | rfl)
    | (refine wkq ?_)
    | (refine am_rs tabOk kOk rfl fun K Q1 hK => ?_; refine go1 ?_)
    | (refine am_reg tabOk kOk rfl fun K Q1 hK => ?_; refine go1 ?_)
    | (refine am_ds mixed tabOk kOk rfl rfl fun K hK => ?_; refine go1 ?_)
    | (refine am_dreg mixed tabOk kOk rfl rfl fun K hK => ?_; refine go1 ?_)
  all_goals rfl
theorem markDk_tc (a b : Int) (l : List Int) (k : Int) (h0 : 0 ≤ k) (hk : k + (l.length : Nat) ≤ 1099511627776) : TC Tryd.prog 38 [.agg [ci a, ci b, .own 1 0 l.length], int k] [(1, .arr 5 1 (l.map bTr))] 2 (int (k + (l.length : Nat))) [(1, .arr 5 1 ((mkBs l.length k).map bTr))] 2 := by
  refine tc_intro Tryd.func38 rfl 10 rfl (Nat.le_of_ble_eq_true rfl) (by decide) [4] rfl dom1 ?_
  intro w0 E0
  have kOk := k117
  have hp : ((0 ≤ k) = True) ∧ ((k + (l.length : Nat) ≤ 1099511627776) = True) := ⟨eq_true h0, eq_true hk⟩
  refine wk1 ?_
  refine am_retB [(1, 1)] rfl ?_ ?_ rfl <;> first | refine go ?_ | rfl
theorem markDk0_tc (a b k : Int) : TC Tryd.prog 38 [.agg [ci a, ci b, .t (.v (.slice none 0 0))], int k] [] 1 (int k) [] 1 := by
  refine tc_intro Tryd.func38 rfl 10 rfl (Nat.le_of_ble_eq_true rfl) (by decide) [4] rfl (by intro id x h; cases h) ?_
  intro w0 E0
  have kOk := k117
  refine wk ?_
  refine am_retP rfl ?_ rfl
  first | rfl | (refine go ?_; rfl)
def kn118_0_1 (n : Int) (d : Dk) : Option TV := if d.data.length ≤ maxLen then some (int (if lft n d.data.length < 0 then -1 else lft n d.data.length)) else none
def kn118_0_0 (n : Int) (r0 : List CV) : Option TV := (unDk r0).bind (kn118_0_1 n)
def kn118_0 : List TV → Option TV
  | [.agg r0, .c (.t (.v (.int .i64 n)))] => kn118_0_0 n r0
  | _ => none
def kn118_1_2 (c : Dk) (d : Dk) : Option TV := if c.data.length ≤ 1073741824 then some (bool (decide (c = d))) else none
def kn118_1_1 (r1 : List CV) (c : Dk) : Option TV := (unDk r1).bind (kn118_1_2 c)
def kn118_1_0 (r0 : List CV) (r1 : List CV) : Option TV := (unDk r0).bind (kn118_1_1 r1)
def kn118_1 : List TV → Option TV
  | [.agg r0, .agg r1] => kn118_1_0 r0 r1
  | _ => none
def kn118_2_1 (k : Int) (d : Dk) : Option TV := if d.data = mkBs d.data.length k ∧ 0 ≤ k ∧ k + (d.data.length : Nat) ≤ 1099511627776 then some (int (k + (d.data.length : Nat))) else none
def kn118_2_0 (k : Int) (r0 : List CV) : Option TV := (unDk r0).bind (kn118_2_1 k)
def kn118_2 : List TV → Option TV
  | [.agg r0, .c (.t (.v (.int .i64 k)))] => kn118_2_0 k r0
  | _ => none
def kn118_call (f : FuncId) (args : List TV) : Option TV := if f = 32 then orO (kn118_0 args) (kn117.call f args) else if f = 37 then orO (kn118_1 args) (kn117.call f args) else if f = 74 then orO (kn118_2 args) (kn117.call f args) else kn117.call f args
def kn118 : Kn := { call := kn118_call, eqs := eqTys, callB := kn117.callB }
attribute [go_sem] kn118_0_0 kn118_0_1 kn118_0 kn118_1_0 kn118_1_1 kn118_1_2 kn118_1 kn118_2_0 kn118_2_1 kn118_2 kn118_call kn118
theorem kn118_ok : ∀ f args res, kn118_call f args = some res → TC Tryd.prog f args [] 1 res [] 1 := by
  intro f args res h
  unfold kn118_call at h
  split at h
  · rename_i e; subst e
    have hh := orO_elim h
    clear h
    rcases hh with h | h
    rotate_left
    · exact k117.call _ _ _ h
    unfold kn118_0 at h
    split at h
    · rename_i r0 n; unfold kn118_0_0 at h
      obtain ⟨d, e0, h⟩ := Option.bind_eq_some_iff.1 h
      unfold kn118_0_1 at h
      split at h
      · rename_i hc; cases h; rw [unDk_ok e0]; exact szDk_tc d n hc
      · cases h
    · cases h
  split at h
  · rename_i e; subst e
    have hh := orO_elim h
    clear h
    rcases hh with h | h
    rotate_left
    · exact k117.call _ _ _ h
    unfold kn118_1 at h
    split at h
    · rename_i r0 r1; unfold kn118_1_0 at h
      obtain ⟨c, e0, h⟩ := Option.bind_eq_some_iff.1 h
      unfold kn118_1_1 at h
      obtain ⟨d, e1, h⟩ := Option.bind_eq_some_iff.1 h
      unfold kn118_1_2 at h
      split at h
      · rename_i hc; cases h; rw [unDk_ok e0, unDk_ok e1]; exact eqDk_tc c d hc
      · cases h
    · cases h
  split at h
  · rename_i e; subst e
    have hh := orO_elim h
    clear h
    rcases hh with h | h
    rotate_left
    · exact k117.call _ _ _ h
    unfold kn118_2 at h
    split at h
    · rename_i r0 k; unfold kn118_2_0 at h
      obtain ⟨d, e0, h⟩ := Option.bind_eq_some_iff.1 h
      unfold kn118_2_1 at h
      split at h
      · rename_i hc; cases h; rw [unDk_ok e0]; exact heldDk_tc d k hc.1 hc.2.1 hc.2.2
      · cases h
    · cases h
  · exact k117.call f args res h
theorem k118 : KnOk Tryd.prog kn118 := ⟨kn118_ok, eqTysOk, k117.callB⟩
def kn119_0_1 (d : Dk) : CB := if d.data.length ≤ 1048576 then some (.agg [ci d.cap, ci d.syn, .own 1 0 d.data.length], [(1, .arr 5 1 (d.data.map bTr))], 2) else none
def kn119_0_0 (q0 : List CV) : CB := (unDk q0).bind (kn119_0_1)
def kn119_0 : List TV → List (Nat × AObj) → CB
  | [.agg q0], [] => kn119_0_0 q0
  | _, _ => none
def kn119_1_1 (a : Int) (b : Int) (n : Nat) (k : Int) (l : List Int) : CB := if n = l.length ∧ 0 ≤ k ∧ k + (l.length : Nat) ≤ 1099511627776 then some (int (k + (l.length : Nat)), [(1, .arr 5 1 ((mkBs l.length k).map bTr))], 2) else none
def kn119_1_0 (a : Int) (b : Int) (n : Nat) (k : Int) (r0 : List (List Tree)) : CB := (unBys r0).bind (kn119_1_1 a b n k)
def kn119_1 : List TV → List (Nat × AObj) → CB
  | [.agg [.t (.v (.int .i64 a)), .t (.v (.int .i64 b)), .own 1 0 n], .c (.t (.v (.int .i64 k)))], [(1, .arr 5 1 r0)] => kn119_1_0 a b n k r0
  | _, _ => none
def kn119_2_0 (a : Int) (b : Int) (a2 : Int) (b2 : Int) : CB := if a = a2 ∧ b = b2 then some (bool true, [], 1) else none
def kn119_2 : List TV → List (Nat × AObj) → CB
  | [.agg [.t (.v (.int .i64 a)), .t (.v (.int .i64 b)), .t (.v (.slice none 0 0))], .agg [.t (.v (.int .i64 a2)), .t (.v (.int .i64 b2)), .t (.v (.slice none 0 0))]], [] => kn119_2_0 a b a2 b2
  | _, _ => none
def kn119_3_0 (a : Int) (b : Int) (k : Int) : CB := if 0 ≤ k then some (int k, [], 1) else none
def kn119_3 : List TV → List (Nat × AObj) → CB
  | [.agg [.t (.v (.int .i64 a)), .t (.v (.int .i64 b)), .t (.v (.slice none 0 0))], .c (.t (.v (.int .i64 k)))], [] => kn119_3_0 a b k
  | _, _ => none
def kn119_call (f : FuncId) (args : List TV) (o : List (Nat × AObj)) : CB := if f = 34 then orO (kn119_0 args o) (kn118.callB f args o) else if f = 38 then orO (kn119_1 args o) (kn118.callB f args o) else if f = 37 then orO (kn119_2 args o) (kn118.callB f args o) else if f = 74 then orO (kn119_3 args o) (kn118.callB f args o) else kn118.callB f args o
def kn119 : Kn := { call := kn118.call, eqs := eqTys, callB := kn119_call }
attribute [go_sem] kn119_0_0 kn119_0_1 kn119_0 kn119_1_0 kn119_1_1 kn119_1 kn119_2_0 kn119_2 kn119_3_0 kn119_3 kn119_call kn119
theorem kn119_ok : ∀ f args o res o1 n1, kn119_call f args o = some (res, o1, n1) → TC Tryd.prog f args o (o.length + 1) res o1 n1 := by
  intro f args o res o1 n1 h
  unfold kn119_call at h
  split at h
  · rename_i e; subst e
    have hh := orO_elim h
    clear h
    rcases hh with h | h
    rotate_left
    · exact k118.callB _ _ _ _ _ _ h
    unfold kn119_0 at h
    split at h
    · rename_i q0; unfold kn119_0_0 at h
      have hb0 := Option.bind_eq_some_iff.1 h
      clear h
      obtain ⟨d, e0, h⟩ := hb0
      unfold kn119_0_1 at h
      split at h
      · rename_i hc; cases h; rw [unDk_ok e0]; exact toDk_tc d hc
      · cases h
    · cases h
  split at h
  · rename_i e; subst e
    have hh := orO_elim h
    clear h
    rcases hh with h | h
    rotate_left
    · exact k118.callB _ _ _ _ _ _ h
    unfold kn119_1 at h
    split at h
    · rename_i a b n k r0; unfold kn119_1_0 at h
      have hb0 := Option.bind_eq_some_iff.1 h
      clear h
      obtain ⟨l, e0, h⟩ := hb0
      unfold kn119_1_1 at h
      split at h
      · rename_i hc; cases h; rw [unBys_ok e0]; obtain ⟨rfl, h1, h2⟩ := hc; exact markDk_tc a b l k h1 h2
      · cases h
    · cases h
  split at h
  · rename_i e; subst e
    have hh := orO_elim h
    clear h
    rcases hh with h | h
    rotate_left
    · exact k118.callB _ _ _ _ _ _ h
    unfold kn119_2 at h
    split at h
    · rename_i a b a2 b2; unfold kn119_2_0 at h
      split at h
      · rename_i hc; cases h; obtain ⟨rfl, rfl⟩ := hc; exact eqDk0_tc a b
      · cases h
    · cases h
  split at h
  · rename_i e; subst e
    have hh := orO_elim h
    clear h
    rcases hh with h | h
    rotate_left
    · exact k118.callB _ _ _ _ _ _ h
    unfold kn119_3 at h
    split at h
    · rename_i a b k; unfold kn119_3_0 at h
      split at h
      · rename_i hc; cases h; exact heldDk0_tc a b k hc
      · cases h
    · cases h
  · exact k118.callB f args o res o1 n1 h
theorem k119 : KnOk Tryd.prog kn119 := ⟨k118.call, eqTysOk, kn119_ok⟩
def kn120_0_0 (a : Int) (b : Int) (k : Int) : CB := some (int k, [], 1)
def kn120_0 : List TV → List (Nat × AObj) → CB
  | [.agg [.t (.v (.int .i64 a)), .t (.v (.int .i64 b)), .t (.v (.slice none 0 0))], .c (.t (.v (.int .i64 k)))], [] => kn120_0_0 a b k
  | _, _ => none
def kn120_call (f : FuncId) (args : List TV) (o : List (Nat × AObj)) : CB := if f = 38 then orO (kn120_0 args o) (kn119.callB f args o) else kn119.callB f args o
def kn120 : Kn := { call := kn119.call, eqs := eqTys, callB := kn120_call }
attribute [go_sem] kn120_0_0 kn120_0 kn120_call kn120
theorem kn120_ok : ∀ f args o res o1 n1, kn120_call f args o = some (res, o1, n1) → TC Tryd.prog f args o (o.length + 1) res o1 n1 := by
  intro f args o res o1 n1 h
  unfold kn120_call at h
  split at h
  · rename_i e; subst e
    have hh := orO_elim h
    clear h
    rcases hh with h | h
    rotate_left
    · exact k119.callB _ _ _ _ _ _ h
    unfold kn120_0 at h
    split at h
    · rename_i a b k; unfold kn120_0_0 at h
      cases h; exact markDk0_tc a b k
    · cases h
  · exact k119.callB f args o res o1 n1 h
theorem k120 : KnOk Tryd.prog kn120 := ⟨k119.call, eqTysOk, kn120_ok⟩
end Go.Proofs.YtaolgdpkcbfocaaDoorA
