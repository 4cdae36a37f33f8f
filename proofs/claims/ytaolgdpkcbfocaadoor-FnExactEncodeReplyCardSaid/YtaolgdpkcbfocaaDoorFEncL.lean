/- Replies encoded: the law holds at every argument. -/
import Derived.Test.YtaolgdpkcbfocaaDoorFEnc3
import Derived.Test.YtaolgdpkcbfocaaDoorFBy
namespace Go.Proofs.YtaolgdpkcbfocaaDoorA
open Go.Proofs
set_option autoImplicit false
set_option linter.unusedVariables false
set_option linter.unusedSimpArgs false
set_option maxRecDepth 4000
theorem toRp_tc (c : Rp) : TC Tryd.prog 11 [.agg c.cv] [] 1 (.agg c.cv) [] 1 := by
  refine tc_cell tabOk Tryd.func11 rfl 23 rfl (Nat.le_of_ble_eq_true rfl) (by decide) [(2, some 27)] rfl (by intro id x h; cases h) ?_
  intro w0 E0
  have kOk := k60
  obtain ⟨a, q, o, x, y, z⟩ := c
  simp only [Rp.cv]
  repeat' (fail_if_success (with_reducible apply amR_id)); first
    | (refine guardP_mk (fun h => ?_) (fun h => ?_) <;> (refine go ?_; try simp only [decide_eq_true_eq, decide_eq_false_iff_not, Bool.not_true, Bool.not_false, Bool.not_eq_true', Bool.not_eq_false', beq_iff_eq, bne_iff_ne, beq_eq_false_iff_ne, bne_eq_false_iff_eq, ne_eq, Bool.false_eq_true, reduceCtorEq] at h))
    | (refine hK _ ?_; clear hK K Q1)
    | (refine ⟨by first | omega | (simp only [List.length_map, List.length_append, List.length_cons, List.length_nil, List.length_replicate, List.length_drop, List.length_take]; omega), by unfold maxLen; first | omega | (simp only [List.length_map, List.length_append, List.length_cons, List.length_nil, List.length_replicate, List.length_drop, List.length_take]; omega), ?_⟩)
    | (refine hK _ _ rfl ?_; clear hK K; try refine go ?_)
    | (refine am_retP rfl ?_ rfl; first | refine go ?_ | rfl)
    | (refine am_retC [] rfl ?_ rfl rfl; first | refine go ?_ | rfl)
    | (refine wkp ?_)
    | (refine am_rs tabOk kOk rfl fun K Q1 hK => ?_; refine go ?_)
    | (refine am_ds mixed tabOk kOk rfl rfl fun K hK => ?_; refine go ?_)
    | (refine am_dreg mixed tabOk kOk rfl rfl fun K hK => ?_; refine go ?_)
  all_goals rfl
theorem szRp_tc (c : Rp) (left : Int) : TC Tryd.prog 9 [.agg c.cv, int left] [] 1 (int (lft left c.v.size)) [] 1 := by
  refine tc_intro Tryd.func9 rfl 13 rfl (Nat.le_of_ble_eq_true rfl) (by decide) [4] rfl (by intro id x h; cases h) ?_
  intro w0 E0
  have kOk := k60
  obtain ⟨a, q, o, x, y, z⟩ := c
  simp only [Rp.cv]
  repeat' (fail_if_success (with_reducible apply amR_id)); first
    | (refine guardP_mk (fun h => ?_) (fun h => ?_) <;> (refine go ?_; try simp only [decide_eq_true_eq, decide_eq_false_iff_not, Bool.not_true, Bool.not_false, Bool.not_eq_true', Bool.not_eq_false', beq_iff_eq, bne_iff_ne, beq_eq_false_iff_ne, bne_eq_false_iff_eq, ne_eq, Bool.false_eq_true, reduceCtorEq] at h))
    | (refine hK _ ?_; clear hK K Q1)
    | (refine ⟨by first | omega | (simp only [List.length_map, List.length_append, List.length_cons, List.length_nil, List.length_replicate, List.length_drop, List.length_take]; omega), by unfold maxLen; first | omega | (simp only [List.length_map, List.length_append, List.length_cons, List.length_nil, List.length_replicate, List.length_drop, List.length_take]; omega), ?_⟩)
    | (refine hK _ _ rfl ?_; clear hK K; try refine go ?_)
    | (refine am_retP rfl ?_ rfl; first | refine go ?_ | rfl)
    | (refine am_retC [] rfl ?_ rfl rfl; first | refine go ?_ | rfl)
    | (refine wkp ?_)
    | (refine am_rs tabOk kOk rfl fun K Q1 hK => ?_; refine go ?_)
    | (refine am_ds mixed tabOk kOk rfl rfl fun K hK => ?_; refine go ?_)
    | (refine am_dreg mixed tabOk kOk rfl rfl fun K hK => ?_; refine go ?_)
  all_goals (simp only [lft]; simp (disch := omega) only [if_pos, if_neg]; try rfl)
def kn61_0_1 (c : Rp) : Option TV := some (.agg c.cv)
def kn61_0_0 (r0 : List CV) : Option TV := (unRp r0).bind (kn61_0_1)
def kn61_0 : List TV → Option TV
  | [.agg r0] => kn61_0_0 r0
  | _ => none
def kn61_1_1 (n : Int) (c : Rp) : Option TV := some (int (lft n c.v.size))
def kn61_1_0 (n : Int) (r0 : List CV) : Option TV := (unRp r0).bind (kn61_1_1 n)
def kn61_1 : List TV → Option TV
  | [.agg r0, .c (.t (.v (.int .i64 n)))] => kn61_1_0 n r0
  | _ => none
def kn61_call (f : FuncId) (args : List TV) : Option TV := if f = 11 then orO (kn61_0 args) (kn60.call f args) else if f = 9 then orO (kn61_1 args) (kn60.call f args) else kn60.call f args
def kn61 : Kn := { call := kn61_call, eqs := eqTys, callB := kn60.callB }
attribute [go_sem] kn61_0_0 kn61_0_1 kn61_0 kn61_1_0 kn61_1_1 kn61_1 kn61_call kn61
theorem kn61_ok : ∀ f args res, kn61_call f args = some res → TC Tryd.prog f args [] 1 res [] 1 := by
  intro f args res h
  unfold kn61_call at h
  split at h
  · rename_i e; subst e
    have hh := orO_elim h
    clear h
    rcases hh with h | h
    rotate_left
    · exact k60.call _ _ _ h
    unfold kn61_0 at h
    split at h
    · rename_i r0; unfold kn61_0_0 at h
      obtain ⟨c, e0, h⟩ := Option.bind_eq_some_iff.1 h
      unfold kn61_0_1 at h
      cases h; rw [unRp_ok e0]; exact toRp_tc c
    · cases h
  split at h
  · rename_i e; subst e
    have hh := orO_elim h
    clear h
    rcases hh with h | h
    rotate_left
    · exact k60.call _ _ _ h
    unfold kn61_1 at h
    split at h
    · rename_i r0 n; unfold kn61_1_0 at h
      obtain ⟨c, e0, h⟩ := Option.bind_eq_some_iff.1 h
      unfold kn61_1_1 at h
      cases h; rw [unRp_ok e0]; exact szRp_tc c n
    · cases h
  · exact k60.call f args res h
theorem k61 : KnOk Tryd.prog kn61 := ⟨kn61_ok, eqTysOk, k60.callB⟩
def kn62_0_1 (r : Rp) : CB := if rpF r = 0 then some (.c (.own 1 0 (frmL (repW [8] r)).length), [(1, .arr 5 1 ((frmL (repW [8] r)).map bTr))], 2) else none
def kn62_0_0 (r0 : List CV) : CB := (unRp r0).bind (kn62_0_1)
def kn62_0 : List TV → List (Nat × AObj) → CB
  | [.agg r0], [] => kn62_0_0 r0
  | _, _ => none
def kn62_1_1 (r : Rp) : CB := if rpF r = 0 then some (.c (.own 1 0 (frmL (repW [8] r)).length), [(1, .arr 5 1 ((frmL (repW [8] r)).map bTr))], 2) else none
def kn62_1_0 (r0 : List CV) : CB := (unRp r0).bind (kn62_1_1)
def kn62_1 : List TV → List (Nat × AObj) → CB
  | [.agg r0], [] => kn62_1_0 r0
  | _, _ => none
def kn62_call (f : FuncId) (args : List TV) (o : List (Nat × AObj)) : CB := if f = 12 then orO (kn62_0 args o) (kn61.callB f args o) else if f = 10 then orO (kn62_1 args o) (kn61.callB f args o) else kn61.callB f args o
def kn62 : Kn := { call := kn61.call, eqs := eqTys, callB := kn62_call }
attribute [go_sem] kn62_0_0 kn62_0_1 kn62_0 kn62_1_0 kn62_1_1 kn62_1 kn62_call kn62
theorem kn62_ok : ∀ f args o res o1 n1, kn62_call f args o = some (res, o1, n1) → TC Tryd.prog f args o (o.length + 1) res o1 n1 := by
  intro f args o res o1 n1 h
  unfold kn62_call at h
  split at h
  · rename_i e; subst e
    have hh := orO_elim h
    clear h
    rcases hh with h | h
    rotate_left
    · exact k61.callB _ _ _ _ _ _ h
    unfold kn62_0 at h
    split at h
    · rename_i r0; unfold kn62_0_0 at h
      have hb0 := Option.bind_eq_some_iff.1 h
      clear h
      obtain ⟨r, e0, h⟩ := hb0
      unfold kn62_0_1 at h
      split at h
      · rename_i hc; cases h; rw [unRp_ok e0]; exact encI_tc r hc
      · cases h
    · cases h
  split at h
  · rename_i e; subst e
    have hh := orO_elim h
    clear h
    rcases hh with h | h
    rotate_left
    · exact k61.callB _ _ _ _ _ _ h
    unfold kn62_1 at h
    split at h
    · rename_i r0; unfold kn62_1_0 at h
      have hb0 := Option.bind_eq_some_iff.1 h
      clear h
      obtain ⟨r, e0, h⟩ := hb0
      unfold kn62_1_1 at h
      split at h
      · rename_i hc; cases h; rw [unRp_ok e0]; exact encS_tc r hc
      · cases h
    · cases h
  · exact k61.callB f args o res o1 n1 h
theorem k62 : KnOk Tryd.prog kn62 := ⟨k61.call, eqTysOk, kn62_ok⟩
def kn63_0_1 (r : Rp) : CB := if rpF r ≠ 0 then some (lit (.slice none 0 0), [], 1) else none
def kn63_0_0 (r0 : List CV) : CB := (unRp r0).bind (kn63_0_1)
def kn63_0 : List TV → List (Nat × AObj) → CB
  | [.agg r0], [] => kn63_0_0 r0
  | _, _ => none
def kn63_1_1 (r : Rp) : CB := if rpF r ≠ 0 then some (.c (.own 1 0 0), [(1, .arr 5 1 [])], 2) else none
def kn63_1_0 (r0 : List CV) : CB := (unRp r0).bind (kn63_1_1)
def kn63_1 : List TV → List (Nat × AObj) → CB
  | [.agg r0], [] => kn63_1_0 r0
  | _, _ => none
def kn63_call (f : FuncId) (args : List TV) (o : List (Nat × AObj)) : CB := if f = 12 then orO (kn63_0 args o) (kn61.callB f args o) else if f = 10 then orO (kn63_1 args o) (kn61.callB f args o) else kn61.callB f args o
def kn63 : Kn := { call := kn61.call, eqs := eqTys, callB := kn63_call }
attribute [go_sem] kn63_0_0 kn63_0_1 kn63_0 kn63_1_0 kn63_1_1 kn63_1 kn63_call kn63
theorem kn63_ok : ∀ f args o res o1 n1, kn63_call f args o = some (res, o1, n1) → TC Tryd.prog f args o (o.length + 1) res o1 n1 := by
  intro f args o res o1 n1 h
  unfold kn63_call at h
  split at h
  · rename_i e; subst e
    have hh := orO_elim h
    clear h
    rcases hh with h | h
    rotate_left
    · exact k61.callB _ _ _ _ _ _ h
    unfold kn63_0 at h
    split at h
    · rename_i r0; unfold kn63_0_0 at h
      have hb0 := Option.bind_eq_some_iff.1 h
      clear h
      obtain ⟨r, e0, h⟩ := hb0
      unfold kn63_0_1 at h
      split at h
      · rename_i hc; cases h; rw [unRp_ok e0]; exact encI0_tc r hc
      · cases h
    · cases h
  split at h
  · rename_i e; subst e
    have hh := orO_elim h
    clear h
    rcases hh with h | h
    rotate_left
    · exact k61.callB _ _ _ _ _ _ h
    unfold kn63_1 at h
    split at h
    · rename_i r0; unfold kn63_1_0 at h
      have hb0 := Option.bind_eq_some_iff.1 h
      clear h
      obtain ⟨r, e0, h⟩ := hb0
      unfold kn63_1_1 at h
      split at h
      · rename_i hc; cases h; rw [unRp_ok e0]; exact encS0_tc r hc
      · cases h
    · cases h
  · exact k61.callB f args o res o1 n1 h
theorem k63 : KnOk Tryd.prog kn63 := ⟨k61.call, eqTysOk, kn63_ok⟩
set_option maxHeartbeats 32000000 in
theorem lawEncR_tc (r : Rp) : TC Tryd.prog 3 [.agg r.cv] [] 1 (bool true) [] 1 := by
  have hx : ∀ x : Int, (x != x) = false := fun x => by simp
  by_cases h : rpF r = 0
  · have hL : (frmL (repW [8] r)).length ≤ 1000 := by
      have := repW_len h
      have l1 := fourL_len (repW [8] r).length
      have l2 := fourL_len (crcF (repW [8] r))
      unfold frmL
      simp only [List.length_append]
      omega
    obtain ⟨cl, sq, kd, rs, v, g⟩ := r
    simp only [Rp.cv]
    refine tc_intro Tryd.func3 rfl 50 rfl (Nat.le_of_ble_eq_true rfl) (by decide) [2] rfl (by intro id x h; cases h) ?_
    intro w0 E0
    have kOk := k62
    generalize hW : frmL (repW [8] ⟨cl, sq, kd, rs, v, g⟩) = W at hL
    have hp := (show rpF ⟨cl, sq, kd, rs, v, g⟩ = 0 ∧ frmL (repW [8] ⟨cl, sq, kd, rs, v, g⟩) = W ∧ (∀ x : Int, (x != x) = false) ∧ (W.length ≤ 1048576) = True ∧ (mkBs W.length 1).length = W.length ∧ (1 + (W.length : Int) ≤ 1099511627776) = True ∧ ((0:Int) ≤ 1) = True ∧ (1 + (W.length : Int) < 0) = False ∧ ((-1 : Int) < 0) = True from ⟨h, hW, hx, eq_true (by omega), mkBs_len _ _, eq_true (by omega), by simp, eq_false (by omega), by simp⟩)
    repeat' (fail_if_success (with_reducible apply amR_id)); first
      | (refine guardP_mk (fun h => ?_) (fun h => ?_) <;> (refine go1 ?_; try simp only [decide_eq_true_eq, decide_eq_false_iff_not, Bool.not_true, Bool.not_false, Bool.not_eq_true', Bool.not_eq_false', beq_iff_eq, bne_iff_ne, beq_eq_false_iff_ne, bne_eq_false_iff_eq, ne_eq, Bool.false_eq_true, reduceCtorEq] at h))
      | (refine hK _ ?_; clear hK K Q1)
      | (refine ⟨by first | omega | (simp only [List.length_map, List.length_append, List.length_cons, List.length_nil, List.length_replicate, List.length_drop, List.length_take]; omega), by unfold maxLen; first | omega | (simp only [List.length_map, List.length_append, List.length_cons, List.length_nil, List.length_replicate, List.length_drop, List.length_take]; omega), ?_⟩)
      | (refine hK _ _ rfl ?_; clear hK K; try refine go1 ?_)
      | (refine am_retP rfl ?_ rfl; first | refine go ?_ | rfl)
      | (refine am_retC [] rfl ?_ rfl rfl; first | refine go ?_ | rfl)
      | (refine wkq ?_)
      | (refine am_rs tabOk kOk rfl fun K Q1 hK => ?_; refine go1 ?_)
      | (refine am_ds mixed tabOk kOk rfl rfl fun K hK => ?_; refine go1 ?_)
      | (refine am_dreg mixed tabOk kOk rfl rfl fun K hK => ?_; refine go1 ?_)
    all_goals rfl
  · obtain ⟨cl, sq, kd, rs, v, g⟩ := r
    simp only [Rp.cv]
    refine tc_intro Tryd.func3 rfl 50 rfl (Nat.le_of_ble_eq_true rfl) (by decide) [2] rfl (by intro id x h; cases h) ?_
    intro w0 E0
    have kOk := k63
    have hp := (show (rpF ⟨cl, sq, kd, rs, v, g⟩ ≠ 0) = True ∧ (∀ x : Int, (x != x) = false) ∧ ((0:Int) ≤ 1) = True ∧ ((1 : Int) < 0) = False ∧ ((-1 : Int) < 0) = True from ⟨eq_true h, hx, by simp, by simp, by simp⟩)
    repeat' (fail_if_success (with_reducible apply amR_id)); first
      | (refine guardP_mk (fun h => ?_) (fun h => ?_) <;> (refine go1 ?_; try simp only [decide_eq_true_eq, decide_eq_false_iff_not, Bool.not_true, Bool.not_false, Bool.not_eq_true', Bool.not_eq_false', beq_iff_eq, bne_iff_ne, beq_eq_false_iff_ne, bne_eq_false_iff_eq, ne_eq, Bool.false_eq_true, reduceCtorEq] at h))
      | (refine hK _ ?_; clear hK K Q1)
      | (refine ⟨by first | omega | (simp only [List.length_map, List.length_append, List.length_cons, List.length_nil, List.length_replicate, List.length_drop, List.length_take]; omega), by unfold maxLen; first | omega | (simp only [List.length_map, List.length_append, List.length_cons, List.length_nil, List.length_replicate, List.length_drop, List.length_take]; omega), ?_⟩)
      | (refine hK _ _ rfl ?_; clear hK K; try refine go1 ?_)
      | (refine am_retP rfl ?_ rfl; first | refine go ?_ | rfl)
      | (refine am_retC [] rfl ?_ rfl rfl; first | refine go ?_ | rfl)
      | (refine wkq ?_)
      | (refine am_rs tabOk kOk rfl fun K Q1 hK => ?_; refine go1 ?_)
      | (refine am_ds mixed tabOk kOk rfl rfl fun K hK => ?_; refine go1 ?_)
      | (refine am_dreg mixed tabOk kOk rfl rfl fun K hK => ?_; refine go1 ?_)
    all_goals rfl
theorem op_Rp : OpT Tryd.prog (fun xs => ∃ c : Rp, xs.map CV.t = c.cv) 23 := by
  refine opT_weak (opT_struct Tryd.underlying23 (by kernel_rfl) (opT_cons (s := 1) rfl (by kernel_rfl) (opT_int Tryd.underlying3) (opT_cons (s := 1) rfl (by kernel_rfl) (opT_int Tryd.underlying3) (opT_cons (s := 1) rfl (by kernel_rfl) (opT_int Tryd.underlying3) (opT_cons (s := 1) rfl (by kernel_rfl) (opT_int Tryd.underlying3) (opT_cons (s := 1) rfl (by kernel_rfl) (opT_string Tryd.underlying9) (opT_cons (s := 1) rfl (by kernel_rfl) (opT_int Tryd.underlying3) opT_nil))))))) ?_
  rintro xs ⟨_, _, rfl, ⟨a2, rfl, _⟩, ⟨_, _, rfl, ⟨a3, rfl, _⟩, ⟨_, _, rfl, ⟨a4, rfl, _⟩, ⟨_, _, rfl, ⟨a5, rfl, _⟩, ⟨_, _, rfl, ⟨a6, rfl, _⟩, ⟨_, _, rfl, ⟨a7, rfl, _⟩, rfl⟩⟩⟩⟩⟩⟩
  exact ⟨⟨a2, a3, a4, a5, a6, a7⟩, rfl⟩
end Go.Proofs.YtaolgdpkcbfocaaDoorA
