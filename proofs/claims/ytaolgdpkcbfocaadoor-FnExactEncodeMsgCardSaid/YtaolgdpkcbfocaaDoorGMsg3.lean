/- Messages as frames: both programs make the same. -/
import Derived.Test.YtaolgdpkcbfocaaDoorGMsg2
namespace Go.Proofs.YtaolgdpkcbfocaaDoorA
open Go.Proofs
set_option autoImplicit false
set_option linter.unusedVariables false
set_option linter.unusedSimpArgs false
set_option maxRecDepth 4000
theorem firstK_tc (m : Ms) (h0 : 0 ≤ m.kd) (h1 : m.kd ≤ 255) : TC Tryd.prog 82 [.c (.ifp 110 1 0)] [(1, .cells m.cv)] 2 (lit (.int .u8 m.kd)) [(1, .cells m.cv)] 2 := by
  have := firstM_tc m
  rwa [show IntKind.u8.wrap m.kd = m.kd by rw [IntKind.wrap_u8']; omega] at this
def kn79_0_1 (r : Ms) : CB := if r.es.length ≤ 1048576 then some (int (msF r), [(1, .cells r.cv)], 2) else none
def kn79_0_0 (q0 : List CV) : CB := (unMs q0).bind (kn79_0_1)
def kn79_0 : List TV → List (Nat × AObj) → CB
  | [.c (.ptr 1 0)], [(1, .cells q0)] => kn79_0_0 q0
  | _, _ => none
def kn79_1_2 (n : Nat) (r : Ms) (bs : List Int) : CB := if n = bs.length ∧ msF r = 0 ∧ bs.length ≤ 10000 then some (.tup [], [(1, .cells r.cv), (2, .cells [.own 4 0 (msgW bs r).length]), (4, .arr 5 1 ((msgW bs r).map bTr))], 5) else none
def kn79_1_1 (n : Nat) (r0 : List (List Tree)) (r : Ms) : CB := (unBys r0).bind (kn79_1_2 n r)
def kn79_1_0 (n : Nat) (q0 : List CV) (r0 : List (List Tree)) : CB := (unMs q0).bind (kn79_1_1 n r0)
def kn79_1 : List TV → List (Nat × AObj) → CB
  | [.c (.ptr 1 0), .c (.ptr 2 0)], [(1, .cells q0), (2, .cells [.own 3 0 n]), (3, .arr 5 1 r0)] => kn79_1_0 n q0 r0
  | _, _ => none
def kn79_2_1 (r : Ms) : CB := if 0 ≤ r.kd ∧ r.kd ≤ 255 then some (lit (.int .u8 r.kd), [(1, .cells r.cv)], 2) else none
def kn79_2_0 (q0 : List CV) : CB := (unMs q0).bind (kn79_2_1)
def kn79_2 : List TV → List (Nat × AObj) → CB
  | [.c (.ifp 110 1 0)], [(1, .cells q0)] => kn79_2_0 q0
  | _, _ => none
def kn79_call (f : FuncId) (args : List TV) (o : List (Nat × AObj)) : CB := if f = 138 then orO (kn79_0 args o) (kn78.callB f args o) else if f = 139 then orO (kn79_1 args o) (kn78.callB f args o) else if f = 82 then orO (kn79_2 args o) (kn78.callB f args o) else kn78.callB f args o
def kn79 : Kn := { call := kn78.call, eqs := eqTys, callB := kn79_call }
attribute [go_sem] kn79_0_0 kn79_0_1 kn79_0 kn79_1_0 kn79_1_1 kn79_1_2 kn79_1 kn79_2_0 kn79_2_1 kn79_2 kn79_call kn79
theorem kn79_ok : ∀ f args o res o1 n1, kn79_call f args o = some (res, o1, n1) → TC Tryd.prog f args o (o.length + 1) res o1 n1 := by
  intro f args o res o1 n1 h
  unfold kn79_call at h
  split at h
  · rename_i e; subst e
    have hh := orO_elim h
    clear h
    rcases hh with h | h
    rotate_left
    · exact k78.callB _ _ _ _ _ _ h
    unfold kn79_0 at h
    split at h
    · rename_i q0; unfold kn79_0_0 at h
      have hb0 := Option.bind_eq_some_iff.1 h
      clear h
      obtain ⟨r, e0, h⟩ := hb0
      unfold kn79_0_1 at h
      split at h
      · rename_i hc; cases h; rw [unMs_ok e0]; exact mfI_tc r hc
      · cases h
    · cases h
  split at h
  · rename_i e; subst e
    have hh := orO_elim h
    clear h
    rcases hh with h | h
    rotate_left
    · exact k78.callB _ _ _ _ _ _ h
    unfold kn79_1 at h
    split at h
    · rename_i q0 n r0; unfold kn79_1_0 at h
      have hb0 := Option.bind_eq_some_iff.1 h
      clear h
      obtain ⟨r, e0, h⟩ := hb0
      unfold kn79_1_1 at h
      have hb1 := Option.bind_eq_some_iff.1 h
      clear h
      obtain ⟨bs, e1, h⟩ := hb1
      unfold kn79_1_2 at h
      split at h
      · rename_i hc; cases h; rw [unMs_ok e0, unBys_ok e1]; obtain ⟨rfl, h1, h2⟩ := hc; exact msgW_tc r bs h1 h2
      · cases h
    · cases h
  split at h
  · rename_i e; subst e
    have hh := orO_elim h
    clear h
    rcases hh with h | h
    rotate_left
    · exact k78.callB _ _ _ _ _ _ h
    unfold kn79_2 at h
    split at h
    · rename_i q0; unfold kn79_2_0 at h
      have hb0 := Option.bind_eq_some_iff.1 h
      clear h
      obtain ⟨r, e0, h⟩ := hb0
      unfold kn79_2_1 at h
      split at h
      · rename_i hc; cases h; rw [unMs_ok e0]; exact firstK_tc r hc.1 hc.2
      · cases h
    · cases h
  · exact k78.callB f args o res o1 n1 h
theorem k79 : KnOk Tryd.prog kn79 := ⟨k78.call, eqTysOk, kn79_ok⟩
theorem msgW_ok {r : Ms} (h : msF r = 0) : okB (msgW [r.kd] r) := okB_app (fun n hn => by
  have := (ms_small h).1
  simp only [List.mem_singleton] at hn
  omega) (msgL_ok r)
theorem msgW_len {r : Ms} (h : msF r = 0) : (msgW [r.kd] r).length ≤ 8475 := by
  have := msgL_len h
  unfold msgW
  rw [List.length_append]
  simp
  omega
set_option maxHeartbeats 16000000 in
theorem encM_tc (r : Ms) (h : msF r = 0) : TC Tryd.prog 50 [.c (.ifp 110 1 0)] [(1, .cells r.cv)] 2 (.c (.own 2 0 (frmL (msgW [r.kd] r)).length)) [(1, .cells r.cv), (2, .arr 5 1 ((frmL (msgW [r.kd] r)).map bTr))] 3 := by
  have hsm := ms_small h
  have hW := msgW_len h
  have hok := msgW_ok h
  have hc := crcF_rng (msgW [r.kd] r)
  have e : frmL (msgW [r.kd] r) = (fourL (msgW [r.kd] r).length ++ fourL (crcF (msgW [r.kd] r))) ++ msgW [r.kd] r := rfl
  rw [e]
  have l1 := fourL_len (msgW [r.kd] r).length
  have l2 := fourL_len (crcF (msgW [r.kd] r))
  obtain ⟨kd, fr, to, te, li, lt, co, ok, hi, es⟩ := r
  have hkd := hsm.1
  have hes := hsm.2.2.2.2.2.2.2.2.2.1
  simp only at hkd hes hW hok hc l1 l2 e
  clear hsm
  simp only [Ms.cv]
  refine tc_intro Tryd.func50 rfl 36 rfl (Nat.le_of_ble_eq_true rfl) (by decide) [2] rfl dom1 ?_
  intro w0 E0
  have kOk := k79
  have hp := (show msF ⟨kd, fr, to, te, li, lt, co, ok, hi, es⟩ = 0 ∧ (es.length ≤ 1048576) = True ∧ (0 ≤ kd) = True ∧ (kd ≤ 255) = True ∧ ((0 : Int) != 0) = false ∧ IntKind.u32.wrap ((msgW [kd] ⟨kd, fr, to, te, li, lt, co, ok, hi, es⟩).length : Nat) = ((msgW [kd] ⟨kd, fr, to, te, li, lt, co, ok, hi, es⟩).length : Nat) ∧ okB (msgW [kd] ⟨kd, fr, to, te, li, lt, co, ok, hi, es⟩) = True ∧ ((msgW [kd] ⟨kd, fr, to, te, li, lt, co, ok, hi, es⟩).length ≤ 1048576) = True ∧
      ((fourL (msgW [kd] ⟨kd, fr, to, te, li, lt, co, ok, hi, es⟩).length ++ fourL (crcF (msgW [kd] ⟨kd, fr, to, te, li, lt, co, ok, hi, es⟩))).length ≤ maxLen) = True ∧ ((fourL (msgW [kd] ⟨kd, fr, to, te, li, lt, co, ok, hi, es⟩).length ++ fourL (crcF (msgW [kd] ⟨kd, fr, to, te, li, lt, co, ok, hi, es⟩))).length * 1 ≤ 140737488355328) = True ∧
      (((fourL (msgW [kd] ⟨kd, fr, to, te, li, lt, co, ok, hi, es⟩).length ++ fourL (crcF (msgW [kd] ⟨kd, fr, to, te, li, lt, co, ok, hi, es⟩))) ++ msgW [kd] ⟨kd, fr, to, te, li, lt, co, ok, hi, es⟩).length ≤ maxLen) = True ∧ (((fourL (msgW [kd] ⟨kd, fr, to, te, li, lt, co, ok, hi, es⟩).length ++ fourL (crcF (msgW [kd] ⟨kd, fr, to, te, li, lt, co, ok, hi, es⟩))) ++ msgW [kd] ⟨kd, fr, to, te, li, lt, co, ok, hi, es⟩).length * 1 ≤ 140737488355328) = True from
    ⟨h, eq_true (by omega), eq_true (by omega), eq_true (by omega), by simp, w32 (by omega) (by omega), eq_true hok, eq_true (by omega), eq_true (by unfold maxLen; simp only [List.length_append]; omega), eq_true (by simp only [List.length_append]; omega), eq_true (by unfold maxLen; simp only [List.length_append]; omega), eq_true (by simp only [List.length_append]; omega)⟩)
  refine hd ?_
  refine am_rs tabOk kOk rfl fun K Q1 hK => ?_
  refine go1 ?_
  refine hK _ ?_
  clear hK K Q1
  refine hd ?_
  refine am_rs tabOk kOk rfl fun K Q1 hK => ?_
  refine go1 ?_
  refine hK _ ?_
  clear hK K Q1
  refine hd ?_
  refine am_cond ?_
  refine go1 ?_
  refine hd ?_
  refine am_skip ?_
  refine go1 ?_
  refine hd ?_
  refine am_rs tabOk kOk rfl fun K Q1 hK => ?_
  refine go1 ?_
  refine hK _ ?_
  clear hK K Q1
  refine hd ?_
  refine am_rs tabOk kOk rfl fun K Q1 hK => ?_
  refine go1 ?_
  refine hK _ ?_
  clear hK K Q1
  refine am_tidy [(1, 1), (3, 2), (4, 3)] [3] 4 rfl ?_
  refine go1 ?_
  clear e h
  generalize msgW [kd] ⟨kd, fr, to, te, li, lt, co, ok, hi, es⟩ = W at *
  refine wk1 ?_
  refine am_retB [(1, 1), (7, 2)] rfl ?_ ?_ rfl <;> first | refine go ?_ | rfl
theorem encM0_tc (r : Ms) (h : msF r ≠ 0) (hl : r.es.length ≤ 1048576) : TC Tryd.prog 50 [.c (.ifp 110 1 0)] [(1, .cells r.cv)] 2 (lit (.slice none 0 0)) [(1, .cells r.cv)] 2 := by
  obtain ⟨kd, fr, to, te, li, lt, co, ok, hi, es⟩ := r
  simp only [Ms.cv]
  refine tc_intro Tryd.func50 rfl 36 rfl (Nat.le_of_ble_eq_true rfl) (by decide) [2] rfl dom1 ?_
  intro w0 E0
  have kOk := k79
  simp only at hl
  have hp := (show (es.length ≤ 1048576) = True ∧ (msF ⟨kd, fr, to, te, li, lt, co, ok, hi, es⟩ != 0) = true from ⟨eq_true hl, by simpa using h⟩)
  refine wk1 ?_
  refine am_retB [(1, 1)] rfl ?_ ?_ rfl <;> first | refine go ?_ | rfl
def kn84_0_1 (r : Ms) : CB := if msF r = 0 then some (.c (.own 2 0 (frmL (msgW [r.kd] r)).length), [(1, .cells r.cv), (2, .arr 5 1 ((frmL (msgW [r.kd] r)).map bTr))], 3) else none
def kn84_0_0 (q0 : List CV) : CB := (unMs q0).bind (kn84_0_1)
def kn84_0 : List TV → List (Nat × AObj) → CB
  | [.c (.ifp 110 1 0)], [(1, .cells q0)] => kn84_0_0 q0
  | _, _ => none
def kn84_call (f : FuncId) (args : List TV) (o : List (Nat × AObj)) : CB := if f = 50 then orO (kn84_0 args o) (kn79.callB f args o) else kn79.callB f args o
def kn84 : Kn := { call := kn79.call, eqs := eqTys, callB := kn84_call }
attribute [go_sem] kn84_0_0 kn84_0_1 kn84_0 kn84_call kn84
theorem kn84_ok : ∀ f args o res o1 n1, kn84_call f args o = some (res, o1, n1) → TC Tryd.prog f args o (o.length + 1) res o1 n1 := by
  intro f args o res o1 n1 h
  unfold kn84_call at h
  split at h
  · rename_i e; subst e
    have hh := orO_elim h
    clear h
    rcases hh with h | h
    rotate_left
    · exact k79.callB _ _ _ _ _ _ h
    unfold kn84_0 at h
    split at h
    · rename_i q0; unfold kn84_0_0 at h
      have hb0 := Option.bind_eq_some_iff.1 h
      clear h
      obtain ⟨r, e0, h⟩ := hb0
      unfold kn84_0_1 at h
      split at h
      · rename_i hc; cases h; rw [unMs_ok e0]; exact encM_tc r hc
      · cases h
    · cases h
  · exact k79.callB f args o res o1 n1 h
theorem k84 : KnOk Tryd.prog kn84 := ⟨k79.call, eqTysOk, kn84_ok⟩
def kn85_0_1 (r : Ms) : CB := if msF r ≠ 0 ∧ r.es.length ≤ 1048576 then some (lit (.slice none 0 0), [(1, .cells r.cv)], 2) else none
def kn85_0_0 (q0 : List CV) : CB := (unMs q0).bind (kn85_0_1)
def kn85_0 : List TV → List (Nat × AObj) → CB
  | [.c (.ifp 110 1 0)], [(1, .cells q0)] => kn85_0_0 q0
  | _, _ => none
def kn85_call (f : FuncId) (args : List TV) (o : List (Nat × AObj)) : CB := if f = 50 then orO (kn85_0 args o) (kn79.callB f args o) else kn79.callB f args o
def kn85 : Kn := { call := kn79.call, eqs := eqTys, callB := kn85_call }
attribute [go_sem] kn85_0_0 kn85_0_1 kn85_0 kn85_call kn85
theorem kn85_ok : ∀ f args o res o1 n1, kn85_call f args o = some (res, o1, n1) → TC Tryd.prog f args o (o.length + 1) res o1 n1 := by
  intro f args o res o1 n1 h
  unfold kn85_call at h
  split at h
  · rename_i e; subst e
    have hh := orO_elim h
    clear h
    rcases hh with h | h
    rotate_left
    · exact k79.callB _ _ _ _ _ _ h
    unfold kn85_0 at h
    split at h
    · rename_i q0; unfold kn85_0_0 at h
      have hb0 := Option.bind_eq_some_iff.1 h
      clear h
      obtain ⟨r, e0, h⟩ := hb0
      unfold kn85_0_1 at h
      split at h
      · rename_i hc; cases h; rw [unMs_ok e0]; exact encM0_tc r hc.1 hc.2
      · cases h
    · cases h
  · exact k79.callB f args o res o1 n1 h
theorem k85 : KnOk Tryd.prog kn85 := ⟨k79.call, eqTysOk, kn85_ok⟩
theorem emI_tc (r : Ms) (h : msF r = 0) : TC Tryd.prog 29 [.agg r.cv] [] 1 (.c (.own 1 0 (frmL (msgW [r.kd] r)).length)) [(1, .arr 5 1 ((frmL (msgW [r.kd] r)).map bTr))] 2 := by
  obtain ⟨kd, fr, to, te, li, lt, co, ok, hi, es⟩ := r
  simp only [Ms.cv]
  refine tc_intro Tryd.func29 rfl 8 rfl (Nat.le_of_ble_eq_true rfl) (by decide) [2] rfl (by intro id x h; cases h) ?_
  intro w0 E0
  have kOk := k84
  have hp := eq_true h
  refine wk1 ?_
  refine hd ?_
  refine am_rs tabOk kOk rfl fun K Q1 hK => ?_
  refine go1 ?_
  rw [if_pos (by decide)]
  refine go1 ?_
  refine hK _ ?_
  clear hK K Q1
  refine am_retB [(3, 1)] rfl ?_ ?_ rfl <;> first | refine go ?_ | rfl
theorem emI0_tc (r : Ms) (h : msF r ≠ 0) (hl : r.es.length ≤ 1048576) : TC Tryd.prog 29 [.agg r.cv] [] 1 (lit (.slice none 0 0)) [] 1 := by
  obtain ⟨kd, fr, to, te, li, lt, co, ok, hi, es⟩ := r
  simp only [Ms.cv]
  refine tc_intro Tryd.func29 rfl 8 rfl (Nat.le_of_ble_eq_true rfl) (by decide) [2] rfl (by intro id x h; cases h) ?_
  intro w0 E0
  have kOk := k85
  have hp := And.intro (eq_true h) (eq_true hl)
  refine wk1 ?_
  refine hd ?_
  refine am_rs tabOk kOk rfl fun K Q1 hK => ?_
  refine go1 ?_
  rw [if_pos (by decide)]
  refine go1 ?_
  refine hK _ ?_
  clear hK K Q1
  refine am_retB [] rfl ?_ ?_ rfl <;> first | refine go ?_ | rfl
theorem emS0_tc (r : Ms) (h : msF r ≠ 0) (hl : r.es.length ≤ 1048576) : TC Tryd.prog 27 [.agg r.cv] [] 1 (.c (.own 1 0 0)) [(1, .arr 5 1 [])] 2 := by
  obtain ⟨kd, fr, to, te, li, lt, co, ok, hi, es⟩ := r
  simp only at hl
  simp only [Ms.cv]
  refine tc_intro Tryd.func27 rfl 65 rfl (Nat.le_of_ble_eq_true rfl) (by decide) [2] rfl (by intro id x h; cases h) ?_
  intro w0 E0
  have kOk := k79
  have hp := (show (es.length ≤ 1048576) = True ∧ (msF ⟨kd, fr, to, te, li, lt, co, ok, hi, es⟩ != 0) = true from ⟨eq_true hl, by simpa using h⟩)
  refine wk1 ?_
  refine am_retB [(2, 1)] rfl ?_ ?_ rfl <;> first | refine go ?_ | rfl
set_option maxHeartbeats 16000000 in
theorem emS_tc (r : Ms) (h : msF r = 0) : TC Tryd.prog 27 [.agg r.cv] [] 1 (.c (.own 1 0 (frmL (msgW [r.kd] r)).length)) [(1, .arr 5 1 ((frmL (msgW [r.kd] r)).map bTr))] 2 := by
  have hWl := msgW_len h
  have hWk := msgW_ok h
  obtain ⟨h1, h2, h3, h4, h5, h6, h7, h8, h9, h10, h11⟩ := ms_small h
  obtain ⟨kd, fr, to, te, li, lt, co, ok, hi, es⟩ := r
  simp only at h1 h2 h3 h4 h5 h6 h7 h8 h9 h10 h11 hWl hWk
  simp only [Ms.cv]
  have hWe : msgW [kd] ⟨kd, fr, to, te, li, lt, co, ok, hi, es⟩ = ([kd] ++ numsL (msgN ⟨kd, fr, to, te, li, lt, co, ok, hi, es⟩)) ++ entsL es := by simp [msgW, msgL]
  have hN : ∀ v, v ∈ msgN ⟨kd, fr, to, te, li, lt, co, ok, hi, es⟩ → v ≤ 9223372036854775807 := fun v hv => by
    simp only [msgN, List.mem_cons, List.not_mem_nil, or_false] at hv
    omega
  have hNl : (msgN ⟨kd, fr, to, te, li, lt, co, ok, hi, es⟩).length = 9 := rfl
  have hNb := numsL_len (msgN ⟨kd, fr, to, te, li, lt, co, ok, hi, es⟩)
  refine tc_intro Tryd.func27 rfl 65 rfl (Nat.le_of_ble_eq_true rfl) (by decide) [2] rfl (by intro id x h; cases h) ?_
  intro w0 E0
  have kOk := k79
  have hp := (show msF ⟨kd, fr, to, te, li, lt, co, ok, hi, es⟩ = 0 ∧ ((0:Int) != 0) = false ∧ (es.length ≤ 1048576) = True ∧ IntKind.u8.wrap kd = kd from ⟨h, by simp, eq_true (by omega), by rw [IntKind.wrap_u8']; omega⟩)
  refine am_rs tabOk kOk rfl fun K Q1 hK => ?_
  refine go1 ?_
  refine hK _ ?_
  clear hK K Q1
  refine hd ?_
  refine am_rs tabOk kOk rfl fun K Q1 hK => ?_
  refine go1 ?_
  refine hK _ ?_
  clear hK K Q1
  refine am_cond ?_
  refine go1 ?_
  refine am_skip ?_
  refine go1 ?_
  refine am_rs tabOk kOk rfl fun K Q1 hK => ?_
  refine go1 ?_
  refine hK _ ?_
  clear hK K Q1
  refine am_rs tabOk kOk rfl fun K Q1 hK => ?_
  refine go1 ?_
  refine hK _ ?_
  clear hK K Q1
  refine am_tidy [(1, 1), (2, 2), (3, 3)] [1, 3, 4] 4 rfl ?_
  refine go1 ?_
  clear hp
  refine am_st ⟨[(1, .c (.ptr 1 0)), (3, .c (.own 2 0 (msgN ⟨kd, fr, to, te, li, lt, co, ok, hi, es⟩).length)), (4, .c (.own 3 0 ([kd] : List Int).length))], [(1, .cells [ci kd, ci fr, ci to, ci te, ci li, ci lt, ci co, ci ok, ci hi, .t (.sl 7 (es.map Ent.tr))]), (2, .arr 3 1 ((msgN ⟨kd, fr, to, te, li, lt, co, ok, hi, es⟩).map iTr)), (3, .arr 5 1 (([kd] : List Int).map bTr))], 4⟩ rfl ?_
  have hBl : ([kd] : List Int).length = 1 := rfl
  generalize msgW [kd] ⟨kd, fr, to, te, li, lt, co, ok, hi, es⟩ = W at *
  generalize ([kd] : List Int) = B at *
  generalize msgN ⟨kd, fr, to, te, li, lt, co, ok, hi, es⟩ = vs at *
  refine am_scut True ⟨[(1, .c (.ptr 1 0)), (4, .c (.own 2 0 (B ++ numsL vs).length))], [(1, .cells [ci kd, ci fr, ci to, ci te, ci li, ci lt, ci co, ci ok, ci hi, .t (.sl 7 (es.map Ent.tr))]), (2, .arr 5 1 ((B ++ numsL vs).map bTr))], 3⟩ (fun _ => ?_) fun KC hKC => ?_
  rotate_left
  · refine wk ?_
    refine am_tidy [(1, 1), (2, 2), (3, 3)] [1, 3, 4, 5] 4 rfl ?_
    refine go ?_
    refine am_loop (vs.length + 1) ?_
    suffices key : ∀ (d i : Nat) (X : List Int), i + d = vs.length → X ++ numsL (vs.drop i) = B ++ numsL vs → X.length ≤ B.length + 10 * i → amR Tryd.prog _ _ _ (d + 1) ⟨[(1, .c (.ptr 1 0)), (3, .c (.own 2 0 vs.length)), (4, .c (.own 3 0 X.length)), (5, int (i : Nat))], [(1, .cells [ci kd, ci fr, ci to, ci te, ci li, ci lt, ci co, ci ok, ci hi, .t (.sl 7 (es.map Ent.tr))]), (2, .arr 3 1 (vs.map iTr)), (3, .arr 5 1 (X.map bTr))], 4⟩ from key vs.length 0 B (by simp) (by simp) (by simp)
    intro d
    induction d with
    | zero =>
      intro i X hi hX hl
      rw [List.drop_eq_nil_of_le (by omega), numsL, List.append_nil] at hX
      subst hX
      have hp := (show ((i : Int) < (vs.length : Int)) = False from eq_false (by omega))
      refine amR_succ ?_
      refine wk1 ?_
      refine hKC _ [(1, 1), (3, 2)] [1, 4] 3 True.intro rfl ?_
      first | rfl | (refine go ?_; rfl)
    | succ d ih =>
      intro i X hi hX hl
      obtain ⟨v, hv0⟩ : ∃ v, vs[i]? = some v := ⟨vs[i]'(by omega), List.getElem?_eq_getElem (by omega)⟩
      rw [numsL_drop hv0, ← List.append_assoc] at hX
      have hvm := hN v (List.mem_of_getElem? hv0)
      have hvl := numL_len v
      have ihk := ih (i + 1) (X ++ numL v) (by omega) hX (by rw [List.length_append]; omega)
      have hp := (show ((i : Int) < (vs.length : Int)) = True ∧ (i < vs.length) = True ∧ (vs.map iTr)[i]? = some [.v (.int .i64 v)] ∧ IntKind.i64.wrap ((i : Int) + 1) = ((i + 1 : Nat) : Int) ∧ (v ≤ 9223372036854775807) = True ∧ ((X ++ numL v).length ≤ maxLen) = True ∧ ((X ++ numL v).length * 1 ≤ 140737488355328) = True from
        ⟨eq_true (by omega), eq_true (by omega), by rw [List.getElem?_map, hv0]; rfl, by rw [wrapN (by omega) (by omega)]; rfl, eq_true hvm, eq_true (by unfold maxLen; rw [List.length_append]; omega), eq_true (by rw [List.length_append]; omega)⟩)
      clear ih
      refine amR_succ ?_
      refine wk1 ?_
      refine amR_tidy [(1, 1), (2, 2), (5, 3)] [1, 3, 4, 5] 4 rfl ?_
      refine go1 ?_
      exact ihk
  have hBB : (B ++ numsL vs).length ≤ 91 := by rw [List.length_append]; omega
  rw [hWe] at hWl hWk ⊢
  clear hWe hNb hN
  generalize B ++ numsL vs = B at *
  refine am_scut True ⟨[(4, .c (.own 2 0 (B ++ entsL es).length))], [(1, .cells [ci kd, ci fr, ci to, ci te, ci li, ci lt, ci co, ci ok, ci hi, .t (.sl 7 (es.map Ent.tr))]), (2, .arr 5 1 ((B ++ entsL es).map bTr))], 3⟩ (fun _ => ?_) fun KC hKC => ?_
  rotate_left
  · refine wk ?_
    refine am_tidy [(1, 1), (2, 2)] [1, 4, 6] 3 rfl ?_
    refine go ?_
    refine am_loop (es.length + 1) ?_
    suffices key : ∀ (d i : Nat) (X : List Int), i + d = es.length → X ++ entsL (es.drop i) = B ++ entsL es → X.length ≤ B.length + 262 * i → amR Tryd.prog _ _ _ (d + 1) ⟨[(1, .c (.ptr 1 0)), (4, .c (.own 2 0 X.length)), (6, int (i : Nat))], [(1, .cells [ci kd, ci fr, ci to, ci te, ci li, ci lt, ci co, ci ok, ci hi, .t (.sl 7 (es.map Ent.tr))]), (2, .arr 5 1 (X.map bTr))], 3⟩ from key es.length 0 B (by simp) (by simp) (by simp)
    intro d
    induction d with
    | zero =>
      intro i X hi hX hl
      rw [List.drop_eq_nil_of_le (by omega), entsL, List.append_nil] at hX
      subst hX
      have hp := (show ((i : Int) < (es.length : Int)) = False from eq_false (by omega))
      refine amR_succ ?_
      refine wk1 ?_
      refine hKC _ [(1, 1), (2, 2)] [4] 3 True.intro rfl ?_
      first | rfl | (refine go ?_; rfl)
    | succ d ih =>
      intro i X hi hX hl
      obtain ⟨e, he0⟩ : ∃ e, es[i]? = some e := ⟨es[i]'(by omega), List.getElem?_eq_getElem (by omega)⟩
      rw [entsL_drop he0, ← List.append_assoc] at hX
      have hok := h11 e (List.mem_of_getElem? he0)
      have hel := entL_len hok
      have ihk := ih (i + 1) (X ++ entL e) (by omega) hX (by rw [List.length_append]; omega)
      have hp := (show ((i : Int) < (es.length : Int)) = True ∧ (i < es.length) = True ∧ (es.map Ent.tr)[i]? = some e.tr ∧ IntKind.i64.wrap ((i : Int) + 1) = ((i + 1 : Nat) : Int) ∧ (entOk e = true) = True ∧ ((X ++ entL e).length ≤ maxLen) = True ∧ ((X ++ entL e).length * 1 ≤ 140737488355328) = True from
        ⟨eq_true (by omega), eq_true (by omega), by rw [List.getElem?_map, he0]; rfl, by rw [wrapN (by omega) (by omega)]; rfl, eq_true hok, eq_true (by unfold maxLen; rw [List.length_append]; omega), eq_true (by rw [List.length_append]; omega)⟩)
      clear ih
      obtain ⟨t, ⟨cl, sq, op, x, y, z⟩⟩ := e
      simp only [Ent.tr] at hp
      refine amR_succ ?_
      refine wk1 ?_
      refine amR_tidy [(1, 1), (4, 2)] [1, 4, 6] 3 rfl ?_
      refine go1 ?_
      exact ihk
  generalize B ++ entsL es = W at *
  have hp := (show okB W = True ∧ (W.length ≤ 1048576) = True from ⟨eq_true hWk, eq_true (by omega)⟩)
  refine wk1 ?_
  refine am_retB [(3, 1)] rfl ?_ ?_ rfl <;> first | refine go ?_ | rfl
end Go.Proofs.YtaolgdpkcbfocaaDoorA
