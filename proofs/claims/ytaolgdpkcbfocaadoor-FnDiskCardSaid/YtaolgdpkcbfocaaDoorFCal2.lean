/- Calls as frames: both programs make the same. -/
import Derived.Test.YtaolgdpkcbfocaaDoorFCal
namespace Go.Proofs.YtaolgdpkcbfocaaDoorA
open Go.Proofs
set_option autoImplicit false
set_option linter.unusedVariables false
set_option linter.unusedSimpArgs false
set_option maxRecDepth 4000
def kn72_0_1 (r : Cm) : CB := some (int (calF r), [(1, .cells r.cv)], 2)
def kn72_0_0 (q0 : List CV) : CB := (unCm q0).bind (kn72_0_1)
def kn72_0 : List TV → List (Nat × AObj) → CB
  | [.c (.ptr 1 0)], [(1, .cells q0)] => kn72_0_0 q0
  | _, _ => none
def kn72_1_2 (n : Nat) (r : Cm) (bs : List Int) : CB := if n = bs.length ∧ cmF r = 0 ∧ bs.length ≤ 10000 then some (.tup [], [(1, .cells r.cv), (2, .cells [.own 4 0 (calW bs r).length]), (4, .arr 5 1 ((calW bs r).map bTr))], 5) else none
def kn72_1_1 (n : Nat) (r0 : List (List Tree)) (r : Cm) : CB := (unBys r0).bind (kn72_1_2 n r)
def kn72_1_0 (n : Nat) (q0 : List CV) (r0 : List (List Tree)) : CB := (unCm q0).bind (kn72_1_1 n r0)
def kn72_1 : List TV → List (Nat × AObj) → CB
  | [.c (.ptr 1 0), .c (.ptr 2 0)], [(1, .cells q0), (2, .cells [.own 3 0 n]), (3, .arr 5 1 r0)] => kn72_1_0 n q0 r0
  | _, _ => none
def kn72_2_1 (r : Cm) : CB := some (lit (.int .u8 7), [(1, .cells r.cv)], 2)
def kn72_2_0 (q0 : List CV) : CB := (unCm q0).bind (kn72_2_1)
def kn72_2 : List TV → List (Nat × AObj) → CB
  | [.c (.ifp 87 1 0)], [(1, .cells q0)] => kn72_2_0 q0
  | _, _ => none
def kn72_3_1 (r : Cm) : CB := if cmF r = 0 then some (.c (.own 1 0 (cmdB r).length), [(1, .arr 5 1 ((cmdB r).map bTr))], 2) else none
def kn72_3_0 (q0 : List CV) : CB := (unCm q0).bind (kn72_3_1)
def kn72_3 : List TV → List (Nat × AObj) → CB
  | [.agg q0], [] => kn72_3_0 q0
  | _, _ => none
def kn72_call (f : FuncId) (args : List TV) (o : List (Nat × AObj)) : CB := if f = 133 then orO (kn72_0 args o) (kn71.callB f args o) else if f = 134 then orO (kn72_1 args o) (kn71.callB f args o) else if f = 82 then orO (kn72_2 args o) (kn71.callB f args o) else if f = 52 then orO (kn72_3 args o) (kn71.callB f args o) else kn71.callB f args o
def kn72 : Kn := { call := kn71.call, eqs := eqTys, callB := kn72_call }
attribute [go_sem] kn72_0_0 kn72_0_1 kn72_0 kn72_1_0 kn72_1_1 kn72_1_2 kn72_1 kn72_2_0 kn72_2_1 kn72_2 kn72_3_0 kn72_3_1 kn72_3 kn72_call kn72
theorem kn72_ok : ∀ f args o res o1 n1, kn72_call f args o = some (res, o1, n1) → TC Tryd.prog f args o (o.length + 1) res o1 n1 := by
  intro f args o res o1 n1 h
  unfold kn72_call at h
  split at h
  · rename_i e; subst e
    have hh := orO_elim h
    clear h
    rcases hh with h | h
    rotate_left
    · exact k71.callB _ _ _ _ _ _ h
    unfold kn72_0 at h
    split at h
    · rename_i q0; unfold kn72_0_0 at h
      have hb0 := Option.bind_eq_some_iff.1 h
      clear h
      obtain ⟨r, e0, h⟩ := hb0
      unfold kn72_0_1 at h
      cases h; rw [unCm_ok e0]; exact calI_tc r
    · cases h
  split at h
  · rename_i e; subst e
    have hh := orO_elim h
    clear h
    rcases hh with h | h
    rotate_left
    · exact k71.callB _ _ _ _ _ _ h
    unfold kn72_1 at h
    split at h
    · rename_i q0 n r0; unfold kn72_1_0 at h
      have hb0 := Option.bind_eq_some_iff.1 h
      clear h
      obtain ⟨r, e0, h⟩ := hb0
      unfold kn72_1_1 at h
      have hb1 := Option.bind_eq_some_iff.1 h
      clear h
      obtain ⟨bs, e1, h⟩ := hb1
      unfold kn72_1_2 at h
      split at h
      · rename_i hc; cases h; rw [unCm_ok e0, unBys_ok e1]; obtain ⟨rfl, h1, h2⟩ := hc; exact calW_tc r bs h1 h2
      · cases h
    · cases h
  split at h
  · rename_i e; subst e
    have hh := orO_elim h
    clear h
    rcases hh with h | h
    rotate_left
    · exact k71.callB _ _ _ _ _ _ h
    unfold kn72_2 at h
    split at h
    · rename_i q0; unfold kn72_2_0 at h
      have hb0 := Option.bind_eq_some_iff.1 h
      clear h
      obtain ⟨r, e0, h⟩ := hb0
      unfold kn72_2_1 at h
      cases h; rw [unCm_ok e0]; exact firstC_tc r
    · cases h
  split at h
  · rename_i e; subst e
    have hh := orO_elim h
    clear h
    rcases hh with h | h
    rotate_left
    · exact k71.callB _ _ _ _ _ _ h
    unfold kn72_3 at h
    split at h
    · rename_i q0; unfold kn72_3_0 at h
      have hb0 := Option.bind_eq_some_iff.1 h
      clear h
      obtain ⟨r, e0, h⟩ := hb0
      unfold kn72_3_1 at h
      split at h
      · rename_i hc; cases h; rw [unCm_ok e0]; exact cmdS2_tc r hc
      · cases h
    · cases h
  · exact k71.callB f args o res o1 n1 h
theorem k72 : KnOk Tryd.prog kn72 := ⟨k71.call, eqTysOk, kn72_ok⟩
theorem calW_ok (r : Cm) : okB (calW [7] r) := okB_app (fun n h => by simp at h; omega) (cmdB_ok r)
theorem calW_len {r : Cm} (h : cmF r = 0) : (calW [7] r).length ≤ 253 := by
  have := cmdB_len h
  unfold calW
  rw [List.length_append]
  simp
  omega
set_option maxHeartbeats 16000000 in
theorem encC_tc (r : Cm) (h : calF r = 0) : TC Tryd.prog 50 [.c (.ifp 87 1 0)] [(1, .cells r.cv)] 2 (.c (.own 2 0 (frmL (calW [7] r)).length)) [(1, .cells r.cv), (2, .arr 5 1 ((frmL (calW [7] r)).map bTr))] 3 := by
  have h0 := calF0 h
  have hW := calW_len h0
  have hok := calW_ok r
  have hc := crcF_rng (calW [7] r)
  have e : frmL (calW [7] r) = (fourL (calW [7] r).length ++ fourL (crcF (calW [7] r))) ++ calW [7] r := rfl
  rw [e]
  have l1 := fourL_len (calW [7] r).length
  have l2 := fourL_len (crcF (calW [7] r))
  obtain ⟨cl, sq, op, x, y, z⟩ := r
  simp only [Cm.cv]
  refine tc_intro Tryd.func50 rfl 36 rfl (Nat.le_of_ble_eq_true rfl) (by decide) [2] rfl dom1 ?_
  intro w0 E0
  have kOk := k72
  have hp := (show calF ⟨cl, sq, op, x, y, z⟩ = 0 ∧ (cmF ⟨cl, sq, op, x, y, z⟩ = 0) = True ∧ ((0 : Int) != 0) = false ∧ IntKind.u32.wrap ((calW [7] ⟨cl, sq, op, x, y, z⟩).length : Nat) = ((calW [7] ⟨cl, sq, op, x, y, z⟩).length : Nat) ∧ okB (calW [7] ⟨cl, sq, op, x, y, z⟩) = True ∧ ((calW [7] ⟨cl, sq, op, x, y, z⟩).length ≤ 1048576) = True ∧
      ((fourL (calW [7] ⟨cl, sq, op, x, y, z⟩).length ++ fourL (crcF (calW [7] ⟨cl, sq, op, x, y, z⟩))).length ≤ maxLen) = True ∧ ((fourL (calW [7] ⟨cl, sq, op, x, y, z⟩).length ++ fourL (crcF (calW [7] ⟨cl, sq, op, x, y, z⟩))).length * 1 ≤ 140737488355328) = True ∧
      (((fourL (calW [7] ⟨cl, sq, op, x, y, z⟩).length ++ fourL (crcF (calW [7] ⟨cl, sq, op, x, y, z⟩))) ++ calW [7] ⟨cl, sq, op, x, y, z⟩).length ≤ maxLen) = True ∧ (((fourL (calW [7] ⟨cl, sq, op, x, y, z⟩).length ++ fourL (crcF (calW [7] ⟨cl, sq, op, x, y, z⟩))) ++ calW [7] ⟨cl, sq, op, x, y, z⟩).length * 1 ≤ 140737488355328) = True from
    ⟨h, eq_true h0, by simp, w32 (by omega) (by omega), eq_true hok, eq_true (by omega), eq_true (by unfold maxLen; simp only [List.length_append]; omega), eq_true (by simp only [List.length_append]; omega), eq_true (by unfold maxLen; simp only [List.length_append]; omega), eq_true (by simp only [List.length_append]; omega)⟩)
  refine hd ?_
  refine am_rs tabOk kOk rfl fun K Q1 hK => ?_
  refine go1 ?_
  refine hK _ ?_
  clear hK K Q1
  refine hd ?_
  refine am_rs tabOk kOk rfl fun K Q1 hK => ?_
  refine go1 ?_
  refine hK _ ?_
  clear hK K Q1
  refine hd ?_
  refine am_cond ?_
  refine go1 ?_
  refine hd ?_
  refine am_skip ?_
  refine go1 ?_
  refine hd ?_
  refine am_rs tabOk kOk rfl fun K Q1 hK => ?_
  refine go1 ?_
  refine hK _ ?_
  clear hK K Q1
  refine hd ?_
  refine am_rs tabOk kOk rfl fun K Q1 hK => ?_
  refine go1 ?_
  refine hK _ ?_
  clear hK K Q1
  refine am_tidy [(1, 1), (3, 2), (4, 3)] [3] 4 rfl ?_
  refine go1 ?_
  clear e h h0
  generalize calW [7] ⟨cl, sq, op, x, y, z⟩ = W at *
  refine wk1 ?_
  refine am_retB [(1, 1), (7, 2)] rfl ?_ ?_ rfl <;> first | refine go ?_ | rfl
theorem encC0_tc (r : Cm) (h : calF r ≠ 0) : TC Tryd.prog 50 [.c (.ifp 87 1 0)] [(1, .cells r.cv)] 2 (lit (.slice none 0 0)) [(1, .cells r.cv)] 2 := by
  obtain ⟨cl, sq, op, x, y, z⟩ := r
  simp only [Cm.cv]
  refine tc_intro Tryd.func50 rfl 36 rfl (Nat.le_of_ble_eq_true rfl) (by decide) [2] rfl dom1 ?_
  intro w0 E0
  have kOk := k72
  have hp := (show (calF ⟨cl, sq, op, x, y, z⟩ != 0) = true from by simpa using h)
  refine wk1 ?_
  refine am_retB [(1, 1)] rfl ?_ ?_ rfl <;> first | refine go ?_ | rfl
def kn73_0_1 (r : Cm) : CB := if calF r = 0 then some (.c (.own 2 0 (frmL (calW [7] r)).length), [(1, .cells r.cv), (2, .arr 5 1 ((frmL (calW [7] r)).map bTr))], 3) else none
def kn73_0_0 (q0 : List CV) : CB := (unCm q0).bind (kn73_0_1)
def kn73_0 : List TV → List (Nat × AObj) → CB
  | [.c (.ifp 87 1 0)], [(1, .cells q0)] => kn73_0_0 q0
  | _, _ => none
def kn73_call (f : FuncId) (args : List TV) (o : List (Nat × AObj)) : CB := if f = 50 then orO (kn73_0 args o) (kn72.callB f args o) else kn72.callB f args o
def kn73 : Kn := { call := kn72.call, eqs := eqTys, callB := kn73_call }
attribute [go_sem] kn73_0_0 kn73_0_1 kn73_0 kn73_call kn73
theorem kn73_ok : ∀ f args o res o1 n1, kn73_call f args o = some (res, o1, n1) → TC Tryd.prog f args o (o.length + 1) res o1 n1 := by
  intro f args o res o1 n1 h
  unfold kn73_call at h
  split at h
  · rename_i e; subst e
    have hh := orO_elim h
    clear h
    rcases hh with h | h
    rotate_left
    · exact k72.callB _ _ _ _ _ _ h
    unfold kn73_0 at h
    split at h
    · rename_i q0; unfold kn73_0_0 at h
      have hb0 := Option.bind_eq_some_iff.1 h
      clear h
      obtain ⟨r, e0, h⟩ := hb0
      unfold kn73_0_1 at h
      split at h
      · rename_i hc; cases h; rw [unCm_ok e0]; exact encC_tc r hc
      · cases h
    · cases h
  · exact k72.callB f args o res o1 n1 h
theorem k73 : KnOk Tryd.prog kn73 := ⟨k72.call, eqTysOk, kn73_ok⟩
def kn74_0_1 (r : Cm) : CB := if calF r ≠ 0 then some (lit (.slice none 0 0), [(1, .cells r.cv)], 2) else none
def kn74_0_0 (q0 : List CV) : CB := (unCm q0).bind (kn74_0_1)
def kn74_0 : List TV → List (Nat × AObj) → CB
  | [.c (.ifp 87 1 0)], [(1, .cells q0)] => kn74_0_0 q0
  | _, _ => none
def kn74_call (f : FuncId) (args : List TV) (o : List (Nat × AObj)) : CB := if f = 50 then orO (kn74_0 args o) (kn72.callB f args o) else kn72.callB f args o
def kn74 : Kn := { call := kn72.call, eqs := eqTys, callB := kn74_call }
attribute [go_sem] kn74_0_0 kn74_0_1 kn74_0 kn74_call kn74
theorem kn74_ok : ∀ f args o res o1 n1, kn74_call f args o = some (res, o1, n1) → TC Tryd.prog f args o (o.length + 1) res o1 n1 := by
  intro f args o res o1 n1 h
  unfold kn74_call at h
  split at h
  · rename_i e; subst e
    have hh := orO_elim h
    clear h
    rcases hh with h | h
    rotate_left
    · exact k72.callB _ _ _ _ _ _ h
    unfold kn74_0 at h
    split at h
    · rename_i q0; unfold kn74_0_0 at h
      have hb0 := Option.bind_eq_some_iff.1 h
      clear h
      obtain ⟨r, e0, h⟩ := hb0
      unfold kn74_0_1 at h
      split at h
      · rename_i hc; cases h; rw [unCm_ok e0]; exact encC0_tc r hc
      · cases h
    · cases h
  · exact k72.callB f args o res o1 n1 h
theorem k74 : KnOk Tryd.prog kn74 := ⟨k72.call, eqTysOk, kn74_ok⟩
theorem ecI_tc (r : Cm) (h : calF r = 0) : TC Tryd.prog 19 [.agg r.cv] [] 1 (.c (.own 1 0 (frmL (calW [7] r)).length)) [(1, .arr 5 1 ((frmL (calW [7] r)).map bTr))] 2 := by
  obtain ⟨cl, sq, op, x, y, z⟩ := r
  simp only [Cm.cv]
  refine tc_intro Tryd.func19 rfl 8 rfl (Nat.le_of_ble_eq_true rfl) (by decide) [2] rfl (by intro id x h; cases h) ?_
  intro w0 E0
  have kOk := k73
  have hp := eq_true h
  refine wk1 ?_
  refine hd ?_
  refine am_rs tabOk kOk rfl fun K Q1 hK => ?_
  refine go1 ?_
  rw [if_pos (by decide)]
  refine go1 ?_
  refine hK _ ?_
  clear hK K Q1
  refine am_retB [(3, 1)] rfl ?_ ?_ rfl <;> first | refine go ?_ | rfl
theorem ecI0_tc (r : Cm) (h : calF r ≠ 0) : TC Tryd.prog 19 [.agg r.cv] [] 1 (lit (.slice none 0 0)) [] 1 := by
  obtain ⟨cl, sq, op, x, y, z⟩ := r
  simp only [Cm.cv]
  refine tc_intro Tryd.func19 rfl 8 rfl (Nat.le_of_ble_eq_true rfl) (by decide) [2] rfl (by intro id x h; cases h) ?_
  intro w0 E0
  have kOk := k74
  have hp := eq_true h
  refine wk1 ?_
  refine hd ?_
  refine am_rs tabOk kOk rfl fun K Q1 hK => ?_
  refine go1 ?_
  rw [if_pos (by decide)]
  refine go1 ?_
  refine hK _ ?_
  clear hK K Q1
  refine am_retB [] rfl ?_ ?_ rfl <;> first | refine go ?_ | rfl
theorem zero_op {c : Cm} (h : calF c = 0) : c.op ≠ 0 := by
  intro ho
  have h2 := calF0 h
  unfold calF at h
  split at h
  · cases h
  · rename_i hz
    apply hz
    unfold cmF at h2
    unfold zeroC
    rw [if_neg (by omega), if_pos ho] at h2
    (repeat' split at h2) <;> simp_all
set_option maxHeartbeats 4000000 in
theorem ecS_tc (r : Cm) (h : calF r = 0) : TC Tryd.prog 17 [.agg r.cv] [] 1 (.c (.own 1 0 (frmL (calW [7] r)).length)) [(1, .arr 5 1 ((frmL (calW [7] r)).map bTr))] 2 := by
  have hok := calW_ok r
  have h0 := calF0 h
  have hl := calW_len h0
  have ho := zero_op h
  obtain ⟨cl, sq, op, x, y, z⟩ := r
  simp only at ho
  simp only [Cm.cv]
  have e : calW [7] ⟨cl, sq, op, x, y, z⟩ = [7] ++ cmdB ⟨cl, sq, op, x, y, z⟩ := rfl
  rw [e] at hok hl ⊢
  generalize hW : [7] ++ cmdB ⟨cl, sq, op, x, y, z⟩ = W at hok hl ⊢
  refine tc_intro Tryd.func17 rfl 19 rfl (Nat.le_of_ble_eq_true rfl) (by decide) [2] rfl (by intro id x h; cases h) ?_
  intro w0 E0
  have kOk := k72
  have hp := (show cmF ⟨cl, sq, op, x, y, z⟩ = 0 ∧ ((0:Int) != 0) = false ∧ (op == 0) = false from ⟨h0, by simp, by simpa using ho⟩)
  refine wk1 ?_
  refine am_tidy [(1, 1), (2, 2)] [1, 3] 3 rfl ?_
  refine go1 ?_
  clear hp
  refine am_st ⟨[(1, .c (.ptr 1 0)), (3, .c (.own 2 0 ([7] : List Int).length))], [(1, .cells [ci cl, ci sq, ci op, cs x, cs y, cs z]), (2, .arr 5 1 (([7] : List Int).map bTr))], 3⟩ rfl ?_
  clear e
  generalize ([7] : List Int) = B at *
  have hp := (show cmF ⟨cl, sq, op, x, y, z⟩ = 0 ∧ B ++ cmdB ⟨cl, sq, op, x, y, z⟩ = W ∧ (W.length ≤ maxLen) = True ∧ (W.length * 1 ≤ 140737488355328) = True ∧ okB W = True ∧ (W.length ≤ 1048576) = True from
    ⟨h0, hW, eq_true (by unfold maxLen; omega), eq_true (by omega), eq_true hok, eq_true (by omega)⟩)
  refine wk1 ?_
  refine am_retB [(5, 1)] rfl ?_ ?_ rfl <;> first | refine go ?_ | rfl
theorem ecS0_tc (r : Cm) (h : calF r ≠ 0) : TC Tryd.prog 17 [.agg r.cv] [] 1 (.c (.own 1 0 0)) [(1, .arr 5 1 [])] 2 := by
  obtain ⟨cl, sq, op, x, y, z⟩ := r
  simp only [Cm.cv]
  refine tc_intro Tryd.func17 rfl 19 rfl (Nat.le_of_ble_eq_true rfl) (by decide) [2] rfl (by intro id x h; cases h) ?_
  intro w0 E0
  have kOk := k72
  have hz : cmF ⟨cl, sq, op, x, y, z⟩ = 0 → op = 0 := fun hh => by
    unfold calF at h
    split at h
    · rename_i hz; exact hz.2.2.1
    · exact absurd hh h
  clear h
  by_cases hc : cmF ⟨cl, sq, op, x, y, z⟩ = 0
  · have hp := (show cmF ⟨cl, sq, op, x, y, z⟩ = 0 ∧ ((0:Int) != 0) = false ∧ (op == 0) = true from ⟨hc, by simp, by simpa using hz hc⟩)
    refine wk1 ?_
    refine am_retB [(2, 1)] rfl ?_ ?_ rfl <;> first | refine go ?_ | rfl
  · have hp := (show (cmF ⟨cl, sq, op, x, y, z⟩ != 0) = true from by simpa using hc)
    refine wk1 ?_
    refine am_retB [(2, 1)] rfl ?_ ?_ rfl <;> first | refine go ?_ | rfl
end Go.Proofs.YtaolgdpkcbfocaaDoorA
