/- Calls encoded: the law holds at every argument. -/
import Derived.Test.YtaolgdpkcbfocaaDoorFCal2
import Derived.Test.YtaolgdpkcbfocaaDoorFBy
namespace Go.Proofs.YtaolgdpkcbfocaaDoorA
open Go.Proofs
set_option autoImplicit false
set_option linter.unusedVariables false
set_option linter.unusedSimpArgs false
set_option maxRecDepth 4000
theorem toCm_tc (c : Cm) : TC Tryd.prog 18 [.agg c.cv] [] 1 (.agg c.cv) [] 1 := by
  refine tc_cell tabOk Tryd.func18 rfl 23 rfl (Nat.le_of_ble_eq_true rfl) (by decide) [(2, some 36)] rfl (by intro id x h; cases h) ?_
  intro w0 E0
  have kOk := k60
  obtain ⟨a, q, o, x, y, z⟩ := c
  simp only [Cm.cv]
  repeat' (fail_if_success (with_reducible apply amR_id)); first
    | (refine guardP_mk (fun h => ?_) (fun h => ?_) <;> (refine go ?_; try simp only [decide_eq_true_eq, decide_eq_false_iff_not, Bool.not_true, Bool.not_false, Bool.not_eq_true', Bool.not_eq_false', beq_iff_eq, bne_iff_ne, beq_eq_false_iff_ne, bne_eq_false_iff_eq, ne_eq, Bool.false_eq_true, reduceCtorEq] at h))
    | (refine hK _ ?_; clear hK K Q1)
    | (refine ⟨by first | omega | (simp only [List.length_map, List.length_append, List.length_cons, List.length_nil, List.length_replicate, List.length_drop, List.length_take]; omega), by unfold maxLen; first | omega | (simp only [List.length_map, List.length_append, List.length_cons, List.length_nil, List.length_replicate, List.length_drop, List.length_take]; omega), ?_⟩)
    | (refine hK _ _ rfl ?_; clear hK K; try refine go ?_)
    | (refine am_retP rfl ?_ rfl; first | refine go ?_ | rfl)
    | (refine am_retC [] rfl ?_ rfl rfl; first | refine go ?_ | rfl)
    | (refine wkp ?_)
    | (refine am_rs tabOk kOk rfl fun K Q1 hK => ?_; refine go ?_)
    | (refine am_reg tabOk kOk rfl fun K Q1 hK => ?_; refine go ?_)
    | (refine am_ds mixed tabOk kOk rfl rfl fun K hK => ?_; refine go ?_)
    | (refine am_dreg mixed tabOk kOk rfl rfl fun K hK => ?_; refine go ?_)
  all_goals rfl
def szCmF (c : Cm) (left : Int) : Int := if lft left c.k.size < 0 then -1 else if lft (lft left c.k.size) c.v.size < 0 then -1 else lft (lft (lft left c.k.size) c.v.size) c.o.size
theorem szCm_tc (c : Cm) (left : Int) : TC Tryd.prog 16 [.agg c.cv, int left] [] 1 (int (szCmF c left)) [] 1 := by
  refine tc_intro Tryd.func16 rfl 27 rfl (Nat.le_of_ble_eq_true rfl) (by decide) [4] rfl (by intro id x h; cases h) ?_
  intro w0 E0
  have kOk := k60
  obtain ⟨a, q, o, x, y, z⟩ := c
  simp only [Cm.cv]
  repeat' (fail_if_success (with_reducible apply amR_id)); first
    | (refine guardP_mk (fun h => ?_) (fun h => ?_) <;> (refine go ?_; try simp only [decide_eq_true_eq, decide_eq_false_iff_not, Bool.not_true, Bool.not_false, Bool.not_eq_true', Bool.not_eq_false', beq_iff_eq, bne_iff_ne, beq_eq_false_iff_ne, bne_eq_false_iff_eq, ne_eq, Bool.false_eq_true, reduceCtorEq] at h))
    | (refine hK _ ?_; clear hK K Q1)
    | (refine ⟨by first | omega | (simp only [List.length_map, List.length_append, List.length_cons, List.length_nil, List.length_replicate, List.length_drop, List.length_take]; omega), by unfold maxLen; first | omega | (simp only [List.length_map, List.length_append, List.length_cons, List.length_nil, List.length_replicate, List.length_drop, List.length_take]; omega), ?_⟩)
    | (refine hK _ _ rfl ?_; clear hK K; try refine go ?_)
    | (refine am_retP rfl ?_ rfl; first | refine go ?_ | rfl)
    | (refine am_retC [] rfl ?_ rfl rfl; first | refine go ?_ | rfl)
    | (refine wkp ?_)
    | (refine am_rs tabOk kOk rfl fun K Q1 hK => ?_; refine go ?_)
    | (refine am_reg tabOk kOk rfl fun K Q1 hK => ?_; refine go ?_)
    | (refine am_ds mixed tabOk kOk rfl rfl fun K hK => ?_; refine go ?_)
    | (refine am_dreg mixed tabOk kOk rfl rfl fun K hK => ?_; refine go ?_)
  all_goals (simp only [szCmF, lft]; simp (disch := omega) only [if_pos, if_neg]; try rfl)
def kn80_0_1 (c : Cm) : Option TV := some (.agg c.cv)
def kn80_0_0 (r0 : List CV) : Option TV := (unCm r0).bind (kn80_0_1)
def kn80_0 : List TV → Option TV
  | [.agg r0] => kn80_0_0 r0
  | _ => none
def kn80_1_1 (n : Int) (c : Cm) : Option TV := some (int (szCmF c n))
def kn80_1_0 (n : Int) (r0 : List CV) : Option TV := (unCm r0).bind (kn80_1_1 n)
def kn80_1 : List TV → Option TV
  | [.agg r0, .c (.t (.v (.int .i64 n)))] => kn80_1_0 n r0
  | _ => none
def kn80_call (f : FuncId) (args : List TV) : Option TV := if f = 18 then orO (kn80_0 args) (kn60.call f args) else if f = 16 then orO (kn80_1 args) (kn60.call f args) else kn60.call f args
def kn80 : Kn := { call := kn80_call, eqs := eqTys, callB := kn60.callB }
attribute [go_sem] kn80_0_0 kn80_0_1 kn80_0 kn80_1_0 kn80_1_1 kn80_1 kn80_call kn80
theorem kn80_ok : ∀ f args res, kn80_call f args = some res → TC Tryd.prog f args [] 1 res [] 1 := by
  intro f args res h
  unfold kn80_call at h
  split at h
  · rename_i e; subst e
    have hh := orO_elim h
    clear h
    rcases hh with h | h
    rotate_left
    · exact k60.call _ _ _ h
    unfold kn80_0 at h
    split at h
    · rename_i r0; unfold kn80_0_0 at h
      obtain ⟨c, e0, h⟩ := Option.bind_eq_some_iff.1 h
      unfold kn80_0_1 at h
      cases h; rw [unCm_ok e0]; exact toCm_tc c
    · cases h
  split at h
  · rename_i e; subst e
    have hh := orO_elim h
    clear h
    rcases hh with h | h
    rotate_left
    · exact k60.call _ _ _ h
    unfold kn80_1 at h
    split at h
    · rename_i r0 n; unfold kn80_1_0 at h
      obtain ⟨c, e0, h⟩ := Option.bind_eq_some_iff.1 h
      unfold kn80_1_1 at h
      cases h; rw [unCm_ok e0]; exact szCm_tc c n
    · cases h
  · exact k60.call f args res h
theorem k80 : KnOk Tryd.prog kn80 := ⟨kn80_ok, eqTysOk, k60.callB⟩
def kn81_0_1 (r : Cm) : CB := if calF r = 0 then some (.c (.own 1 0 (frmL (calW [7] r)).length), [(1, .arr 5 1 ((frmL (calW [7] r)).map bTr))], 2) else none
def kn81_0_0 (r0 : List CV) : CB := (unCm r0).bind (kn81_0_1)
def kn81_0 : List TV → List (Nat × AObj) → CB
  | [.agg r0], [] => kn81_0_0 r0
  | _, _ => none
def kn81_1_1 (r : Cm) : CB := if calF r = 0 then some (.c (.own 1 0 (frmL (calW [7] r)).length), [(1, .arr 5 1 ((frmL (calW [7] r)).map bTr))], 2) else none
def kn81_1_0 (r0 : List CV) : CB := (unCm r0).bind (kn81_1_1)
def kn81_1 : List TV → List (Nat × AObj) → CB
  | [.agg r0], [] => kn81_1_0 r0
  | _, _ => none
def kn81_call (f : FuncId) (args : List TV) (o : List (Nat × AObj)) : CB := if f = 19 then orO (kn81_0 args o) (kn80.callB f args o) else if f = 17 then orO (kn81_1 args o) (kn80.callB f args o) else kn80.callB f args o
def kn81 : Kn := { call := kn80.call, eqs := eqTys, callB := kn81_call }
attribute [go_sem] kn81_0_0 kn81_0_1 kn81_0 kn81_1_0 kn81_1_1 kn81_1 kn81_call kn81
theorem kn81_ok : ∀ f args o res o1 n1, kn81_call f args o = some (res, o1, n1) → TC Tryd.prog f args o (o.length + 1) res o1 n1 := by
  intro f args o res o1 n1 h
  unfold kn81_call at h
  split at h
  · rename_i e; subst e
    have hh := orO_elim h
    clear h
    rcases hh with h | h
    rotate_left
    · exact k80.callB _ _ _ _ _ _ h
    unfold kn81_0 at h
    split at h
    · rename_i r0; unfold kn81_0_0 at h
      have hb0 := Option.bind_eq_some_iff.1 h
      clear h
      obtain ⟨r, e0, h⟩ := hb0
      unfold kn81_0_1 at h
      split at h
      · rename_i hc; cases h; rw [unCm_ok e0]; exact ecI_tc r hc
      · cases h
    · cases h
  split at h
  · rename_i e; subst e
    have hh := orO_elim h
    clear h
    rcases hh with h | h
    rotate_left
    · exact k80.callB _ _ _ _ _ _ h
    unfold kn81_1 at h
    split at h
    · rename_i r0; unfold kn81_1_0 at h
      have hb0 := Option.bind_eq_some_iff.1 h
      clear h
      obtain ⟨r, e0, h⟩ := hb0
      unfold kn81_1_1 at h
      split at h
      · rename_i hc; cases h; rw [unCm_ok e0]; exact ecS_tc r hc
      · cases h
    · cases h
  · exact k80.callB f args o res o1 n1 h
theorem k81 : KnOk Tryd.prog kn81 := ⟨k80.call, eqTysOk, kn81_ok⟩
def kn82_0_1 (r : Cm) : CB := if calF r ≠ 0 then some (lit (.slice none 0 0), [], 1) else none
def kn82_0_0 (r0 : List CV) : CB := (unCm r0).bind (kn82_0_1)
def kn82_0 : List TV → List (Nat × AObj) → CB
  | [.agg r0], [] => kn82_0_0 r0
  | _, _ => none
def kn82_1_1 (r : Cm) : CB := if calF r ≠ 0 then some (.c (.own 1 0 0), [(1, .arr 5 1 [])], 2) else none
def kn82_1_0 (r0 : List CV) : CB := (unCm r0).bind (kn82_1_1)
def kn82_1 : List TV → List (Nat × AObj) → CB
  | [.agg r0], [] => kn82_1_0 r0
  | _, _ => none
def kn82_call (f : FuncId) (args : List TV) (o : List (Nat × AObj)) : CB := if f = 19 then orO (kn82_0 args o) (kn80.callB f args o) else if f = 17 then orO (kn82_1 args o) (kn80.callB f args o) else kn80.callB f args o
def kn82 : Kn := { call := kn80.call, eqs := eqTys, callB := kn82_call }
attribute [go_sem] kn82_0_0 kn82_0_1 kn82_0 kn82_1_0 kn82_1_1 kn82_1 kn82_call kn82
theorem kn82_ok : ∀ f args o res o1 n1, kn82_call f args o = some (res, o1, n1) → TC Tryd.prog f args o (o.length + 1) res o1 n1 := by
  intro f args o res o1 n1 h
  unfold kn82_call at h
  split at h
  · rename_i e; subst e
    have hh := orO_elim h
    clear h
    rcases hh with h | h
    rotate_left
    · exact k80.callB _ _ _ _ _ _ h
    unfold kn82_0 at h
    split at h
    · rename_i r0; unfold kn82_0_0 at h
      have hb0 := Option.bind_eq_some_iff.1 h
      clear h
      obtain ⟨r, e0, h⟩ := hb0
      unfold kn82_0_1 at h
      split at h
      · rename_i hc; cases h; rw [unCm_ok e0]; exact ecI0_tc r hc
      · cases h
    · cases h
  split at h
  · rename_i e; subst e
    have hh := orO_elim h
    clear h
    rcases hh with h | h
    rotate_left
    · exact k80.callB _ _ _ _ _ _ h
    unfold kn82_1 at h
    split at h
    · rename_i r0; unfold kn82_1_0 at h
      have hb0 := Option.bind_eq_some_iff.1 h
      clear h
      obtain ⟨r, e0, h⟩ := hb0
      unfold kn82_1_1 at h
      split at h
      · rename_i hc; cases h; rw [unCm_ok e0]; exact ecS0_tc r hc
      · cases h
    · cases h
  · exact k80.callB f args o res o1 n1 h
theorem k82 : KnOk Tryd.prog kn82 := ⟨k80.call, eqTysOk, kn82_ok⟩
set_option maxHeartbeats 32000000 in
theorem lawEncC_tc (r : Cm) : TC Tryd.prog 4 [.agg r.cv] [] 1 (bool true) [] 1 := by
  have hx : ∀ x : Int, (x != x) = false := fun x => by simp
  by_cases h : calF r = 0
  · have hL : (frmL (calW [7] r)).length ≤ 1000 := by
      have := calW_len (calF0 h)
      have l1 := fourL_len (calW [7] r).length
      have l2 := fourL_len (crcF (calW [7] r))
      unfold frmL
      simp only [List.length_append]
      omega
    obtain ⟨cl, sq, kd, rs, v, g⟩ := r
    simp only [Cm.cv]
    refine tc_intro Tryd.func4 rfl 50 rfl (Nat.le_of_ble_eq_true rfl) (by decide) [2] rfl (by intro id x h; cases h) ?_
    intro w0 E0
    have kOk := k81
    generalize hW : frmL (calW [7] ⟨cl, sq, kd, rs, v, g⟩) = W at hL
    have hp := (show calF ⟨cl, sq, kd, rs, v, g⟩ = 0 ∧ frmL (calW [7] ⟨cl, sq, kd, rs, v, g⟩) = W ∧ (∀ x : Int, (x != x) = false) ∧ (W.length ≤ 1048576) = True ∧ (mkBs W.length 1).length = W.length ∧ (1 + (W.length : Int) ≤ 1099511627776) = True ∧ ((0:Int) ≤ 1) = True ∧ (1 + (W.length : Int) < 0) = False ∧ ((-1 : Int) < 0) = True from ⟨h, hW, hx, eq_true (by omega), mkBs_len _ _, eq_true (by omega), by simp, eq_false (by omega), by simp⟩)
    repeat' (fail_if_success (with_reducible apply amR_id)); first
      | (refine guardP_mk (fun h => ?_) (fun h => ?_) <;> (refine go1 ?_; try simp only [decide_eq_true_eq, decide_eq_false_iff_not, Bool.not_true, Bool.not_false, Bool.not_eq_true', Bool.not_eq_false', beq_iff_eq, bne_iff_ne, beq_eq_false_iff_ne, bne_eq_false_iff_eq, ne_eq, Bool.false_eq_true, reduceCtorEq] at h))
      | (refine hK _ ?_; clear hK K Q1)
      | (refine ⟨by first | omega | (simp only [List.length_map, List.length_append, List.length_cons, List.length_nil, List.length_replicate, List.length_drop, List.length_take]; omega), by unfold maxLen; first | omega | (simp only [List.length_map, List.length_append, List.length_cons, List.length_nil, List.length_replicate, List.length_drop, List.length_take]; omega), ?_⟩)
      | (refine hK _ _ rfl ?_; clear hK K; try refine go1 ?_)
      | (refine am_retP rfl ?_ rfl; first | refine go ?_ | rfl)
      | (refine am_retC [] rfl ?_ rfl rfl; first | refine go ?_ | rfl)
      | (refine wkq ?_)
      | (refine am_rs tabOk kOk rfl fun K Q1 hK => ?_; refine go1 ?_)
      | (refine am_reg tabOk kOk rfl fun K Q1 hK => ?_; refine go1 ?_)
      | (refine am_ds mixed tabOk kOk rfl rfl fun K hK => ?_; refine go1 ?_)
      | (refine am_dreg mixed tabOk kOk rfl rfl fun K hK => ?_; refine go1 ?_)
    all_goals rfl
  · obtain ⟨cl, sq, kd, rs, v, g⟩ := r
    simp only [Cm.cv]
    refine tc_intro Tryd.func4 rfl 50 rfl (Nat.le_of_ble_eq_true rfl) (by decide) [2] rfl (by intro id x h; cases h) ?_
    intro w0 E0
    have kOk := k82
    have hp := (show (calF ⟨cl, sq, kd, rs, v, g⟩ ≠ 0) = True ∧ (∀ x : Int, (x != x) = false) ∧ ((0:Int) ≤ 1) = True ∧ ((1 : Int) < 0) = False ∧ ((-1 : Int) < 0) = True from ⟨eq_true h, hx, by simp, by simp, by simp⟩)
    repeat' (fail_if_success (with_reducible apply amR_id)); first
      | (refine guardP_mk (fun h => ?_) (fun h => ?_) <;> (refine go1 ?_; try simp only [decide_eq_true_eq, decide_eq_false_iff_not, Bool.not_true, Bool.not_false, Bool.not_eq_true', Bool.not_eq_false', beq_iff_eq, bne_iff_ne, beq_eq_false_iff_ne, bne_eq_false_iff_eq, ne_eq, Bool.false_eq_true, reduceCtorEq] at h))
      | (refine hK _ ?_; clear hK K Q1)
      | (refine ⟨by first | omega | (simp only [List.length_map, List.length_append, List.length_cons, List.length_nil, List.length_replicate, List.length_drop, List.length_take]; omega), by unfold maxLen; first | omega | (simp only [List.length_map, List.length_append, List.length_cons, List.length_nil, List.length_replicate, List.length_drop, List.length_take]; omega), ?_⟩)
      | (refine hK _ _ rfl ?_; clear hK K; try refine go1 ?_)
      | (refine am_retP rfl ?_ rfl; first | refine go ?_ | rfl)
      | (refine am_retC [] rfl ?_ rfl rfl; first | refine go ?_ | rfl)
      | (refine wkq ?_)
      | (refine am_rs tabOk kOk rfl fun K Q1 hK => ?_; refine go1 ?_)
      | (refine am_reg tabOk kOk rfl fun K Q1 hK => ?_; refine go1 ?_)
      | (refine am_ds mixed tabOk kOk rfl rfl fun K hK => ?_; refine go1 ?_)
      | (refine am_dreg mixed tabOk kOk rfl rfl fun K hK => ?_; refine go1 ?_)
    all_goals rfl
theorem op_Cm : OpT Tryd.prog (fun xs => ∃ c : Cm, xs.map CV.t = c.cv) 33 := by
  refine opT_weak (opT_struct Tryd.underlying33 (by kernel_rfl) (opT_cons (s := 1) rfl (by kernel_rfl) (opT_int Tryd.underlying3) (opT_cons (s := 1) rfl (by kernel_rfl) (opT_int Tryd.underlying3) (opT_cons (s := 1) rfl (by kernel_rfl) (opT_int Tryd.underlying3) (opT_cons (s := 1) rfl (by kernel_rfl) (opT_string Tryd.underlying9) (opT_cons (s := 1) rfl (by kernel_rfl) (opT_string Tryd.underlying9) (opT_cons (s := 1) rfl (by kernel_rfl) (opT_string Tryd.underlying9) opT_nil))))))) ?_
  rintro xs ⟨_, _, rfl, ⟨a2, rfl, _⟩, ⟨_, _, rfl, ⟨a3, rfl, _⟩, ⟨_, _, rfl, ⟨a4, rfl, _⟩, ⟨_, _, rfl, ⟨a5, rfl, _⟩, ⟨_, _, rfl, ⟨a6, rfl, _⟩, ⟨_, _, rfl, ⟨a7, rfl, _⟩, rfl⟩⟩⟩⟩⟩⟩
  exact ⟨⟨a2, a3, a4, a5, a6, a7⟩, rfl⟩
end Go.Proofs.YtaolgdpkcbfocaaDoorA
