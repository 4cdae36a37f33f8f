/- Replies as frames: the reference's way; the two entries. -/
import Derived.Test.YtaolgdpkcbfocaaDoorFEnc2
namespace Go.Proofs.YtaolgdpkcbfocaaDoorA
open Go.Proofs
set_option autoImplicit false
set_option linter.unusedVariables false
set_option linter.unusedSimpArgs false
set_option maxRecDepth 4000
set_option maxHeartbeats 16000000 in
theorem frmS_tc (bs : List Int) (hb : okB bs) (hl : bs.length ≤ 1048576) : TC Tryd.prog 49 [.c (.own 1 0 bs.length)] [(1, .arr 5 1 (bs.map bTr))] 2 (.c (.own 2 0 (frmL bs).length)) [(1, .arr 5 1 (bs.map bTr)), (2, .arr 5 1 ((frmL bs).map bTr))] 3 := by
  have hc := crcF_rng bs
  have e : frmL bs = (fourL bs.length ++ fourL (crcF bs)) ++ bs := rfl
  rw [e]
  have l1 := fourL_len bs.length
  have l2 := fourL_len (crcF bs)
  refine tc_intro Tryd.func49 rfl 16 rfl (Nat.le_of_ble_eq_true rfl) (by decide) [2] rfl dom1 ?_
  intro w0 E0
  have kOk := k54
  have hp := (show IntKind.u32.wrap (bs.length : Nat) = (bs.length : Nat) ∧ ((bs.length : Int) ≤ 4294967295) = True ∧ (0 ≤ crcF bs) = True ∧ (crcF bs ≤ 4294967295) = True ∧ okB bs = True ∧ (bs.length ≤ 1048576) = True ∧
      ((fourL bs.length ++ fourL (crcF bs)).length ≤ maxLen) = True ∧ ((fourL bs.length ++ fourL (crcF bs)).length * 1 ≤ 140737488355328) = True ∧
      (((fourL bs.length ++ fourL (crcF bs)) ++ bs).length ≤ maxLen) = True ∧ (((fourL bs.length ++ fourL (crcF bs)) ++ bs).length * 1 ≤ 140737488355328) = True from
    ⟨w32 (by omega) (by omega), eq_true (by omega), eq_true hc.1, eq_true (Int.le_of_lt_add_one hc.2), eq_true hb, eq_true (by omega), eq_true (by unfold maxLen; simp only [List.length_append]; omega), eq_true (by simp only [List.length_append]; omega), eq_true (by unfold maxLen; simp only [List.length_append]; omega), eq_true (by simp only [List.length_append]; omega)⟩)
  refine wk1 ?_
  refine am_retB [(1, 1), (5, 2)] rfl ?_ ?_ rfl <;> first | refine go ?_ | rfl
def kn55_0_1 (n : Nat) (bs : List Int) : CB := if n = bs.length ∧ okB bs ∧ bs.length ≤ 1048576 then some (.c (.own 2 0 (frmL bs).length), [(1, .arr 5 1 (bs.map bTr)), (2, .arr 5 1 ((frmL bs).map bTr))], 3) else none
def kn55_0_0 (n : Nat) (r0 : List (List Tree)) : CB := (unBys r0).bind (kn55_0_1 n)
def kn55_0 : List TV → List (Nat × AObj) → CB
  | [.c (.own 1 0 n)], [(1, .arr 5 1 r0)] => kn55_0_0 n r0
  | _, _ => none
def kn55_call (f : FuncId) (args : List TV) (o : List (Nat × AObj)) : CB := if f = 49 then orO (kn55_0 args o) (kn54.callB f args o) else kn54.callB f args o
def kn55 : Kn := { call := kn54.call, eqs := eqTys, callB := kn55_call }
attribute [go_sem] kn55_0_0 kn55_0_1 kn55_0 kn55_call kn55
theorem kn55_ok : ∀ f args o res o1 n1, kn55_call f args o = some (res, o1, n1) → TC Tryd.prog f args o (o.length + 1) res o1 n1 := by
  intro f args o res o1 n1 h
  unfold kn55_call at h
  split at h
  · rename_i e; subst e
    have hh := orO_elim h
    clear h
    rcases hh with h | h
    rotate_left
    · exact k54.callB _ _ _ _ _ _ h
    unfold kn55_0 at h
    split at h
    · rename_i n r0; unfold kn55_0_0 at h
      have hb0 := Option.bind_eq_some_iff.1 h
      clear h
      obtain ⟨bs, e0, h⟩ := hb0
      unfold kn55_0_1 at h
      split at h
      · rename_i hc; cases h; rw [unBys_ok e0]; obtain ⟨rfl, h1, h2⟩ := hc; exact frmS_tc bs h1 h2
      · cases h
    · cases h
  · exact k54.callB f args o res o1 n1 h
theorem k55 : KnOk Tryd.prog kn55 := ⟨k54.call, eqTysOk, kn55_ok⟩
def kn56_0_1 (r : Rp) : CB := if rpF r = 0 then some (.c (.own 2 0 (frmL (repW [8] r)).length), [(1, .cells r.cv), (2, .arr 5 1 ((frmL (repW [8] r)).map bTr))], 3) else none
def kn56_0_0 (q0 : List CV) : CB := (unRp q0).bind (kn56_0_1)
def kn56_0 : List TV → List (Nat × AObj) → CB
  | [.c (.ifp 83 1 0)], [(1, .cells q0)] => kn56_0_0 q0
  | _, _ => none
def kn56_call (f : FuncId) (args : List TV) (o : List (Nat × AObj)) : CB := if f = 50 then orO (kn56_0 args o) (kn55.callB f args o) else kn55.callB f args o
def kn56 : Kn := { call := kn55.call, eqs := eqTys, callB := kn56_call }
attribute [go_sem] kn56_0_0 kn56_0_1 kn56_0 kn56_call kn56
theorem kn56_ok : ∀ f args o res o1 n1, kn56_call f args o = some (res, o1, n1) → TC Tryd.prog f args o (o.length + 1) res o1 n1 := by
  intro f args o res o1 n1 h
  unfold kn56_call at h
  split at h
  · rename_i e; subst e
    have hh := orO_elim h
    clear h
    rcases hh with h | h
    rotate_left
    · exact k55.callB _ _ _ _ _ _ h
    unfold kn56_0 at h
    split at h
    · rename_i q0; unfold kn56_0_0 at h
      have hb0 := Option.bind_eq_some_iff.1 h
      clear h
      obtain ⟨r, e0, h⟩ := hb0
      unfold kn56_0_1 at h
      split at h
      · rename_i hc; cases h; rw [unRp_ok e0]; exact encR_tc r hc
      · cases h
    · cases h
  · exact k55.callB f args o res o1 n1 h
theorem k56 : KnOk Tryd.prog kn56 := ⟨k55.call, eqTysOk, kn56_ok⟩
def kn57_0_1 (r : Rp) : CB := if rpF r ≠ 0 then some (lit (.slice none 0 0), [(1, .cells r.cv)], 2) else none
def kn57_0_0 (q0 : List CV) : CB := (unRp q0).bind (kn57_0_1)
def kn57_0 : List TV → List (Nat × AObj) → CB
  | [.c (.ifp 83 1 0)], [(1, .cells q0)] => kn57_0_0 q0
  | _, _ => none
def kn57_call (f : FuncId) (args : List TV) (o : List (Nat × AObj)) : CB := if f = 50 then orO (kn57_0 args o) (kn55.callB f args o) else kn55.callB f args o
def kn57 : Kn := { call := kn55.call, eqs := eqTys, callB := kn57_call }
attribute [go_sem] kn57_0_0 kn57_0_1 kn57_0 kn57_call kn57
theorem kn57_ok : ∀ f args o res o1 n1, kn57_call f args o = some (res, o1, n1) → TC Tryd.prog f args o (o.length + 1) res o1 n1 := by
  intro f args o res o1 n1 h
  unfold kn57_call at h
  split at h
  · rename_i e; subst e
    have hh := orO_elim h
    clear h
    rcases hh with h | h
    rotate_left
    · exact k55.callB _ _ _ _ _ _ h
    unfold kn57_0 at h
    split at h
    · rename_i q0; unfold kn57_0_0 at h
      have hb0 := Option.bind_eq_some_iff.1 h
      clear h
      obtain ⟨r, e0, h⟩ := hb0
      unfold kn57_0_1 at h
      split at h
      · rename_i hc; cases h; rw [unRp_ok e0]; exact encR0_tc r hc
      · cases h
    · cases h
  · exact k55.callB f args o res o1 n1 h
theorem k57 : KnOk Tryd.prog kn57 := ⟨k55.call, eqTysOk, kn57_ok⟩
theorem encI_tc (r : Rp) (h : rpF r = 0) : TC Tryd.prog 12 [.agg r.cv] [] 1 (.c (.own 1 0 (frmL (repW [8] r)).length)) [(1, .arr 5 1 ((frmL (repW [8] r)).map bTr))] 2 := by
  obtain ⟨cl, sq, kd, rs, v, g⟩ := r
  simp only [Rp.cv]
  refine tc_intro Tryd.func12 rfl 8 rfl (Nat.le_of_ble_eq_true rfl) (by decide) [2] rfl (by intro id x h; cases h) ?_
  intro w0 E0
  have kOk := k56
  have hp := eq_true h
  refine wk1 ?_
  refine hd ?_
  refine am_rs tabOk kOk rfl fun K Q1 hK => ?_
  refine go1 ?_
  rw [if_pos (by decide)]
  refine go1 ?_
  refine hK _ ?_
  clear hK K Q1
  refine am_retB [(3, 1)] rfl ?_ ?_ rfl <;> first | refine go ?_ | rfl
theorem encI0_tc (r : Rp) (h : rpF r ≠ 0) : TC Tryd.prog 12 [.agg r.cv] [] 1 (lit (.slice none 0 0)) [] 1 := by
  obtain ⟨cl, sq, kd, rs, v, g⟩ := r
  simp only [Rp.cv]
  refine tc_intro Tryd.func12 rfl 8 rfl (Nat.le_of_ble_eq_true rfl) (by decide) [2] rfl (by intro id x h; cases h) ?_
  intro w0 E0
  have kOk := k57
  have hp := eq_true h
  refine wk1 ?_
  refine hd ?_
  refine am_rs tabOk kOk rfl fun K Q1 hK => ?_
  refine go1 ?_
  rw [if_pos (by decide)]
  refine go1 ?_
  refine hK _ ?_
  clear hK K Q1
  refine am_retB [] rfl ?_ ?_ rfl <;> first | refine go ?_ | rfl
set_option maxHeartbeats 4000000 in
theorem encS_tc (r : Rp) (h : rpF r = 0) : TC Tryd.prog 10 [.agg r.cv] [] 1 (.c (.own 1 0 (frmL (repW [8] r)).length)) [(1, .arr 5 1 ((frmL (repW [8] r)).map bTr))] 2 := by
  have hok := repW_ok r
  obtain ⟨h1, h2, h3, h4, h5, h6, h7⟩ := rp_small h
  obtain ⟨cl, sq, kd, rs, v, g⟩ := r
  simp only at h1 h2 h3 h4 h5 h6 h7
  have e : repW [8] ⟨cl, sq, kd, rs, v, g⟩ = (((((([8] ++ numL cl) ++ numL sq) ++ numL kd) ++ numL rs) ++ txtL v) ++ numL g) := by simp [repW, repB]
  rw [e] at hok ⊢
  generalize hW : (((((([8] ++ numL cl) ++ numL sq) ++ numL kd) ++ numL rs) ++ txtL v) ++ numL g) = W at hok ⊢
  have a1 := numL_len cl
  have a2 := numL_len sq
  have a3 := numL_len kd
  have a4 := numL_len rs
  have a5 := numL_len g
  have a6 := txtL_len v
  simp only [Rp.cv]
  refine tc_intro Tryd.func10 rfl 41 rfl (Nat.le_of_ble_eq_true rfl) (by decide) [2] rfl (by intro id x h; cases h) ?_
  intro w0 E0
  have kOk := k55
  have hp := And.intro h (show (((0:Int) != 0) = false) from rfl)
  refine wk1 ?_
  refine am_tidy [(1, 1), (2, 2)] [1, 3] 3 rfl ?_
  refine go1 ?_
  clear hp
  have e1 : (1 : Nat) = ([8] : List Int).length := rfl
  have e2 : [[Tree.v (Value.int IntKind.u8 8)]] = ([8] : List Int).map bTr := rfl
  refine am_st ⟨[(1, .c (.ptr 1 0)), (3, .c (.own 2 0 ([8] : List Int).length))], [(1, .cells [ci cl, ci sq, ci kd, ci rs, cs v, ci g]), (2, .arr 5 1 (([8] : List Int).map bTr))], 3⟩ rfl ?_
  clear e e1 e2 h
  have hB : ([8] : List Int).length = 1 := rfl
  generalize ([8] : List Int) = B at *
  have hp := (show (cl ≤ 9223372036854775807) = True ∧ (sq ≤ 9223372036854775807) = True ∧ (kd ≤ 9223372036854775807) = True ∧ (rs ≤ 9223372036854775807) = True ∧ (g ≤ 9223372036854775807) = True ∧ (v.size ≤ 1048576) = True ∧ ((B ++ numL cl).length ≤ maxLen) = True ∧ ((B ++ numL cl).length * 1 ≤ 140737488355328) = True ∧ (((B ++ numL cl) ++ numL sq).length ≤ maxLen) = True ∧ (((B ++ numL cl) ++ numL sq).length * 1 ≤ 140737488355328) = True ∧ ((((B ++ numL cl) ++ numL sq) ++ numL kd).length ≤ maxLen) = True ∧ ((((B ++ numL cl) ++ numL sq) ++ numL kd).length * 1 ≤ 140737488355328) = True ∧ (((((B ++ numL cl) ++ numL sq) ++ numL kd) ++ numL rs).length ≤ maxLen) = True ∧ (((((B ++ numL cl) ++ numL sq) ++ numL kd) ++ numL rs).length * 1 ≤ 140737488355328) = True ∧ ((((((B ++ numL cl) ++ numL sq) ++ numL kd) ++ numL rs) ++ txtL v).length ≤ maxLen) = True ∧ ((((((B ++ numL cl) ++ numL sq) ++ numL kd) ++ numL rs) ++ txtL v).length * 1 ≤ 140737488355328) = True ∧ (((((((B ++ numL cl) ++ numL sq) ++ numL kd) ++ numL rs) ++ txtL v) ++ numL g).length ≤ maxLen) = True ∧ (((((((B ++ numL cl) ++ numL sq) ++ numL kd) ++ numL rs) ++ txtL v) ++ numL g).length * 1 ≤ 140737488355328) = True ∧ okB ((((((B ++ numL cl) ++ numL sq) ++ numL kd) ++ numL rs) ++ txtL v) ++ numL g) = True ∧ (((((((B ++ numL cl) ++ numL sq) ++ numL kd) ++ numL rs) ++ txtL v) ++ numL g).length ≤ 1048576) = True from
    ⟨eq_true (by omega), eq_true (by omega), eq_true (by omega), eq_true (by omega), eq_true (by omega), eq_true (by omega), eq_true (by unfold maxLen; simp only [List.length_append]; omega), eq_true (by simp only [List.length_append]; omega), eq_true (by unfold maxLen; simp only [List.length_append]; omega), eq_true (by simp only [List.length_append]; omega), eq_true (by unfold maxLen; simp only [List.length_append]; omega), eq_true (by simp only [List.length_append]; omega), eq_true (by unfold maxLen; simp only [List.length_append]; omega), eq_true (by simp only [List.length_append]; omega), eq_true (by unfold maxLen; simp only [List.length_append]; omega), eq_true (by simp only [List.length_append]; omega), eq_true (by unfold maxLen; simp only [List.length_append]; omega), eq_true (by simp only [List.length_append]; omega), eq_true (hW ▸ hok), eq_true (by simp only [List.length_append]; omega)⟩)
  refine wk1 ?_
  rw [hW]
  refine am_retB [(15, 1)] rfl ?_ ?_ rfl <;> first | refine go ?_ | rfl
theorem encS0_tc (r : Rp) (h : rpF r ≠ 0) : TC Tryd.prog 10 [.agg r.cv] [] 1 (.c (.own 1 0 0)) [(1, .arr 5 1 [])] 2 := by
  obtain ⟨cl, sq, kd, rs, v, g⟩ := r
  simp only [Rp.cv]
  refine tc_intro Tryd.func10 rfl 41 rfl (Nat.le_of_ble_eq_true rfl) (by decide) [2] rfl (by intro id x h; cases h) ?_
  intro w0 E0
  have kOk := k55
  have hp := (show (rpF ⟨cl, sq, kd, rs, v, g⟩ != 0) = true from by simpa using h)
  refine wk1 ?_
  refine am_retB [(2, 1)] rfl ?_ ?_ rfl <;> first | refine go ?_ | rfl
end Go.Proofs.YtaolgdpkcbfocaaDoorA
