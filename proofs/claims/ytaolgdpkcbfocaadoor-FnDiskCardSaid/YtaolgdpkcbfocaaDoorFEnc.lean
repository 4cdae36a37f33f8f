/- Replies as frames: the program's way. -/
import Derived.Test.YtaolgdpkcbfocaaDoorFRep
namespace Go.Proofs.YtaolgdpkcbfocaaDoorA
open Go.Proofs
set_option autoImplicit false
set_option linter.unusedVariables false
set_option linter.unusedSimpArgs false
set_option maxRecDepth 4000
/-- A reply's bytes. -/
def repB (r : Rp) : List Int := numL r.cl ++ (numL r.sq ++ (numL r.kd ++ (numL r.rs ++ (txtL r.v ++ numL r.hint))))
def repW (bs : List Int) (r : Rp) : List Int := bs ++ repB r
theorem rp_small {r : Rp} (h : rpF r = 0) : r.cl ≤ 8 ∧ r.sq ≤ 1073741824 ∧ r.kd ≤ 2 ∧ r.rs ≤ 4 ∧ r.hint ≤ 7 ∧ r.v.size ≤ 64 ∧ r.rs ≥ 0 := by
  unfold rpF at h
  (repeat' split at h) <;> omega
theorem repB_len {r : Rp} (h : rpF r = 0) : (repB r).length ≤ 200 := by
  obtain ⟨h1, h2, h3, h4, h5, h6, _⟩ := rp_small h
  have a1 := numL_len r.cl
  have a2 := numL_len r.sq
  have a3 := numL_len r.kd
  have a4 := numL_len r.rs
  have a5 := numL_len r.hint
  have a6 := txtL_len r.v
  unfold repB
  simp only [List.length_append]
  omega
set_option maxHeartbeats 16000000 in
theorem repW_tc (r : Rp) (bs : List Int) (h : rpF r = 0) (hb : bs.length ≤ 10000) : TC Tryd.prog 130 [.c (.ptr 1 0), .c (.ptr 2 0)] [(1, .cells r.cv), (2, .cells [.own 3 0 bs.length]), (3, .arr 5 1 (bs.map bTr))] 4
    (.tup []) [(1, .cells r.cv), (2, .cells [.own 4 0 (repW bs r).length]), (4, .arr 5 1 ((repW bs r).map bTr))] 5 := by
  obtain ⟨h1, h2, h3, h4, h5, h6, h7⟩ := rp_small h
  obtain ⟨cl, sq, kd, rs, v, g⟩ := r
  simp only at h1 h2 h3 h4 h5 h6 h7
  have a1 := numL_len cl
  have a2 := numL_len sq
  have a3 := numL_len kd
  have a4 := numL_len rs
  have a5 := numL_len g
  have a6 := txtL_len v
  have e : repW bs ⟨cl, sq, kd, rs, v, g⟩ = ((bs ++ (numL cl ++ (numL sq ++ (numL kd ++ numL rs)))) ++ txtL v) ++ numL g := by simp [repW, repB]
  rw [e]
  simp only [Rp.cv]
  refine tc_intro Tryd.func130 rfl 43 rfl (Nat.le_of_ble_eq_true rfl) (by decide) [] rfl dom3 ?_
  intro w0 E0
  have kOk := k52
  have hp := (show (cl ≤ 9223372036854775807) = True ∧ (sq ≤ 9223372036854775807) = True ∧ (kd ≤ 9223372036854775807) = True ∧ (rs ≤ 9223372036854775807) = True ∧ (g ≤ 9223372036854775807) = True ∧ (v.size ≤ 1024) = True ∧ (bs.length ≤ 1048576) = True ∧ ((bs ++ (numL cl ++ (numL sq ++ (numL kd ++ numL rs)))).length ≤ 1000000) = True ∧ (((bs ++ (numL cl ++ (numL sq ++ (numL kd ++ numL rs)))) ++ txtL v).length ≤ 1048576) = True from
    ⟨eq_true (by omega), eq_true (by omega), eq_true (by omega), eq_true (by omega), eq_true (by omega), eq_true (by omega), eq_true (by omega), eq_true (by simp only [List.length_append]; omega), eq_true (by simp only [List.length_append]; omega)⟩)
  refine wk1 ?_
  refine ret_norm [(1, 1), (2, 2), (3, 3), (9, 4)] rfl ?_ ?_
  · rfl
  · rfl
theorem first_tc (r : Rp) : TC Tryd.prog 82 [.c (.ifp 83 1 0)] [(1, .cells r.cv)] 2 (lit (.int .u8 8)) [(1, .cells r.cv)] 2 := by
  refine tc_intro Tryd.func82 rfl 32 rfl (Nat.le_of_ble_eq_true rfl) (by decide) [2] rfl dom1 ?_
  intro w0 E0
  have kOk := k52
  refine wk ?_
  refine am_retB [(1, 1)] rfl ?_ ?_ rfl <;> first | refine go ?_ | rfl
def fourL (x : Int) : List Int := [x % 256, x / 256 % 256, x / 65536 % 256, x / 16777216 % 256]
theorem fourL_len (x : Int) : (fourL x).length = 4 := rfl
theorem little_tc (x : Int) : TC Tryd.prog 83 [lit (.int .u32 x)] [] 1 (.c (.own 1 0 (fourL x).length)) [(1, .arr 5 1 ((fourL x).map bTr))] 2 := by
  refine tc_intro Tryd.func83 rfl 15 rfl (Nat.le_of_ble_eq_true rfl) (by decide) [2] rfl (by intro id x h; cases h) ?_
  intro w0 E0
  have kOk := k52
  have q : ∀ k : Nat, Int.fdiv x (2 ^ k) = x / 2 ^ k := fun k => Int.fdiv_eq_ediv_of_nonneg _ (by exact Int.le_of_lt (Int.pow_pos (by omega)))
  have hp := (show IntKind.u8.wrap x = x % 256 ∧ Int.fdiv x (2 ^ min 8 32) = x / 256 ∧ Int.fdiv x (2 ^ min 16 32) = x / 65536 ∧ Int.fdiv x (2 ^ min 24 32) = x / 16777216 ∧ IntKind.u8.wrap (x / 256) = x / 256 % 256 ∧ IntKind.u8.wrap (x / 65536) = x / 65536 % 256 ∧ IntKind.u8.wrap (x / 16777216) = x / 16777216 % 256 from
    ⟨IntKind.wrap_u8' _, q 8, q 16, q 24, IntKind.wrap_u8' _, IntKind.wrap_u8' _, IntKind.wrap_u8' _⟩)
  repeat' (fail_if_success (with_reducible apply amR_id)); first
    | (refine guardP_mk (fun h => ?_) (fun h => ?_) <;> (refine go1 ?_; try simp only [decide_eq_true_eq, decide_eq_false_iff_not, Bool.not_true, Bool.not_false, Bool.not_eq_true', Bool.not_eq_false', beq_iff_eq, bne_iff_ne, beq_eq_false_iff_ne, bne_eq_false_iff_eq, ne_eq, Bool.false_eq_true, reduceCtorEq] at h))
    | (refine hK _ ?_; clear hK K Q1)
    | (refine ⟨by first | omega | (simp only [List.length_map, List.length_append, List.length_cons, List.length_nil, List.length_replicate, List.length_drop, List.length_take]; omega), by unfold maxLen; first | omega | (simp only [List.length_map, List.length_append, List.length_cons, List.length_nil, List.length_replicate, List.length_drop, List.length_take]; omega), ?_⟩)
    | (refine hK _ _ rfl ?_; clear hK K; try refine go1 ?_)
    | (refine am_retC [(1, 1)] rfl ?_ rfl rfl; first | refine go ?_ | rfl)
    | (refine am_retB [(1, 1)] rfl ?_ ?_ rfl <;> first | refine go ?_ | rfl)
    | (refine wkq ?_)
    | (refine am_rs tabOk kOk rfl fun K Q1 hK => ?_; refine go1 ?_)
    | (refine am_reg tabOk kOk rfl fun K Q1 hK => ?_; refine go1 ?_)
    | (refine am_ds mixed tabOk kOk rfl rfl fun K hK => ?_; refine go1 ?_)
    | (refine am_dreg mixed tabOk kOk rfl rfl fun K hK => ?_; refine go1 ?_)
  all_goals rfl
theorem fourS_tc (x : Int) (h0 : 0 ≤ x) (h1 : x < 4294967296) : TC Tryd.prog 80 [lit (.int .u32 x)] [] 1 (.c (.own 1 0 (fourL x).length)) [(1, .arr 5 1 ((fourL x).map bTr))] 2 := by
  refine tc_intro Tryd.func80 rfl 18 rfl (Nat.le_of_ble_eq_true rfl) (by decide) [2] rfl (by intro id x h; cases h) ?_
  intro w0 E0
  have kOk := k52
  have q : ∀ k : Int, 0 < k → Int.tdiv x k = x / k := fun k hk => Int.tdiv_eq_ediv_of_nonneg h0
  have r : ∀ y : Int, 0 ≤ y → Int.tmod y 256 = y % 256 := fun y hy => Int.tmod_eq_emod_of_nonneg hy
  have hp := (show Int.tmod x 256 = x % 256 ∧ IntKind.u8.wrap (x % 256) = x % 256 ∧ Int.tdiv x 256 = x / 256 ∧ Int.tdiv x 65536 = x / 65536 ∧ Int.tdiv x 16777216 = x / 16777216 ∧ IntKind.u32.wrap (x / 256) = x / 256 ∧ IntKind.u32.wrap (x / 65536) = x / 65536 ∧ IntKind.u32.wrap (x / 16777216) = x / 16777216 ∧ Int.tmod (x / 256) 256 = x / 256 % 256 ∧ Int.tmod (x / 65536) 256 = x / 65536 % 256 ∧ IntKind.u8.wrap (x / 256 % 256) = x / 256 % 256 ∧ IntKind.u8.wrap (x / 65536 % 256) = x / 65536 % 256 ∧ IntKind.u8.wrap (x / 16777216) = x / 16777216 % 256 ∧ ((256 : Int) = 0) = False ∧ ((65536 : Int) = 0) = False ∧ ((16777216 : Int) = 0) = False from
    ⟨r x h0, by rw [IntKind.wrap_u8']; omega, q 256 (by omega), q 65536 (by omega), q 16777216 (by omega), by rw [IntKind.wrap_u32']; omega, by rw [IntKind.wrap_u32']; omega, by rw [IntKind.wrap_u32']; omega, r _ (by omega), r _ (by omega), by rw [IntKind.wrap_u8']; omega, by rw [IntKind.wrap_u8']; omega, IntKind.wrap_u8' _, by simp, by simp, by simp⟩)
  repeat' (fail_if_success (with_reducible apply amR_id)); first
    | (refine guardP_mk (fun h => ?_) (fun h => ?_) <;> (refine go1 ?_; try simp only [decide_eq_true_eq, decide_eq_false_iff_not, Bool.not_true, Bool.not_false, Bool.not_eq_true', Bool.not_eq_false', beq_iff_eq, bne_iff_ne, beq_eq_false_iff_ne, bne_eq_false_iff_eq, ne_eq, Bool.false_eq_true, reduceCtorEq] at h))
    | (refine hK _ ?_; clear hK K Q1)
    | (refine ⟨by first | omega | (simp only [List.length_map, List.length_append, List.length_cons, List.length_nil, List.length_replicate, List.length_drop, List.length_take]; omega), by unfold maxLen; first | omega | (simp only [List.length_map, List.length_append, List.length_cons, List.length_nil, List.length_replicate, List.length_drop, List.length_take]; omega), ?_⟩)
    | (refine hK _ _ rfl ?_; clear hK K; try refine go1 ?_)
    | (refine am_retC [(1, 1)] rfl ?_ rfl rfl; first | refine go ?_ | rfl)
    | (refine am_retB [(1, 1)] rfl ?_ ?_ rfl <;> first | refine go ?_ | rfl)
    | (refine wkq ?_)
    | (refine am_rs tabOk kOk rfl fun K Q1 hK => ?_; refine go1 ?_)
    | (refine am_reg tabOk kOk rfl fun K Q1 hK => ?_; refine go1 ?_)
    | (refine am_ds mixed tabOk kOk rfl rfl fun K hK => ?_; refine go1 ?_)
    | (refine am_dreg mixed tabOk kOk rfl rfl fun K hK => ?_; refine go1 ?_)
  all_goals rfl
end Go.Proofs.YtaolgdpkcbfocaaDoorA
