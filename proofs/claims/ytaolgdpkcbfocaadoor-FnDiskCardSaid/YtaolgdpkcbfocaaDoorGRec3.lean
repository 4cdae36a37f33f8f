/- Records as frames, rows of them: both programs make the same. -/
import Derived.Test.YtaolgdpkcbfocaaDoorGRec2
import Derived.Test.YtaolgdpkcbfocaaDoorFBy
namespace Go.Proofs.YtaolgdpkcbfocaaDoorA
open Go.Proofs
set_option autoImplicit false
set_option linter.unusedVariables false
set_option linter.unusedSimpArgs false
set_option maxRecDepth 4000
def kn104_0_2 (n : Nat) (r : Rec) (bs : List Int) : CB := if n = bs.length ∧ rcF r = true ∧ bs.length ≤ 10000 then some (.tup [], [(1, .cells [.own 3 0 (recW bs r).length]), (3, .arr 5 1 ((recW bs r).map bTr))], 4) else none
def kn104_0_1 (n : Nat) (r0 : List (List Tree)) (r : Rec) : CB := (unBys r0).bind (kn104_0_2 n r)
def kn104_0_0 (n : Nat) (q0 : List Tree) (r0 : List (List Tree)) : CB := (unRecT q0).bind (kn104_0_1 n r0)
def kn104_0 : List TV → List (Nat × AObj) → CB
  | [.c (.rp q0), .c (.ptr 1 0)], [(1, .cells [.own 2 0 n]), (2, .arr 5 1 r0)] => kn104_0_0 n q0 r0
  | _, _ => none
def kn104_1_1 (r : Rec) : CB := if 1 ≤ r.kd ∧ r.kd ≤ 3 then some (lit (.int .u8 (10 + r.kd)), [], 1) else none
def kn104_1_0 (q0 : List Tree) : CB := (unRecT q0).bind (kn104_1_1)
def kn104_1 : List TV → List (Nat × AObj) → CB
  | [.c (.irp 102 q0)], [] => kn104_1_0 q0
  | _, _ => none
def kn104_call (f : FuncId) (args : List TV) (o : List (Nat × AObj)) : CB := if f = 136 then orO (kn104_0 args o) (kn103.callB f args o) else if f = 82 then orO (kn104_1 args o) (kn103.callB f args o) else kn103.callB f args o
def kn104 : Kn := { call := kn103.call, eqs := eqTys, callB := kn104_call }
attribute [go_sem] kn104_0_0 kn104_0_1 kn104_0_2 kn104_0 kn104_1_0 kn104_1_1 kn104_1 kn104_call kn104
theorem kn104_ok : ∀ f args o res o1 n1, kn104_call f args o = some (res, o1, n1) → TC Tryd.prog f args o (o.length + 1) res o1 n1 := by
  intro f args o res o1 n1 h
  unfold kn104_call at h
  split at h
  · rename_i e; subst e
    have hh := orO_elim h
    clear h
    rcases hh with h | h
    rotate_left
    · exact k103.callB _ _ _ _ _ _ h
    unfold kn104_0 at h
    split at h
    · rename_i q0 n r0; unfold kn104_0_0 at h
      have hb0 := Option.bind_eq_some_iff.1 h
      clear h
      obtain ⟨r, e0, h⟩ := hb0
      unfold kn104_0_1 at h
      have hb1 := Option.bind_eq_some_iff.1 h
      clear h
      obtain ⟨bs, e1, h⟩ := hb1
      unfold kn104_0_2 at h
      split at h
      · rename_i hc; cases h; rw [unRecT_ok e0, unBys_ok e1]; obtain ⟨rfl, h1, h2⟩ := hc; exact recW_tc r bs h1 h2
      · cases h
    · cases h
  split at h
  · rename_i e; subst e
    have hh := orO_elim h
    clear h
    rcases hh with h | h
    rotate_left
    · exact k103.callB _ _ _ _ _ _ h
    unfold kn104_1 at h
    split at h
    · rename_i q0; unfold kn104_1_0 at h
      have hb0 := Option.bind_eq_some_iff.1 h
      clear h
      obtain ⟨r, e0, h⟩ := hb0
      unfold kn104_1_1 at h
      split at h
      · rename_i hc; cases h; rw [unRecT_ok e0]; exact firstR_tc r hc.1 hc.2
      · cases h
    · cases h
  · exact k103.callB f args o res o1 n1 h
theorem k104 : KnOk Tryd.prog kn104 := ⟨k103.call, eqTysOk, kn104_ok⟩
theorem recW_ok {r : Rec} (h : rcF r = true) : okB (recW [10 + r.kd] r) := okB_app (fun n hn => by
  have := (rec_small h).1
  simp only [List.mem_singleton] at hn
  omega) (recB_ok r)
theorem recW_len {r : Rec} (h : rcF r = true) : (recW [10 + r.kd] r).length ≤ 273 := by
  have := recB_len h
  unfold recW
  rw [List.length_append]
  simp
  omega
set_option maxHeartbeats 16000000 in
theorem encRc_tc (r : Rec) (h : rcF r = true) : TC Tryd.prog 50 [.c (.irp 102 r.tr)] [] 1 (.c (.own 1 0 (frmL (recW [10 + r.kd] r)).length)) [(1, .arr 5 1 ((frmL (recW [10 + r.kd] r)).map bTr))] 2 := by
  have hsm := rec_small h
  have hW := recW_len h
  have hok := recW_ok h
  have hc := crcF_rng (recW [10 + r.kd] r)
  have e : frmL (recW [10 + r.kd] r) = (fourL (recW [10 + r.kd] r).length ++ fourL (crcF (recW [10 + r.kd] r))) ++ recW [10 + r.kd] r := rfl
  rw [e]
  have l1 := fourL_len (recW [10 + r.kd] r).length
  have l2 := fourL_len (crcF (recW [10 + r.kd] r))
  obtain ⟨kd, te, vo, ix, ⟨t, ⟨a, b, o, x, y, z⟩⟩⟩ := r
  have hkd := hsm.1
  simp only at hkd hW hok hc l1 l2 e
  clear hsm
  simp only [Rec.tr]
  refine tc_intro Tryd.func50 rfl 36 rfl (Nat.le_of_ble_eq_true rfl) (by decide) [2] rfl (by intro id x h; cases h) ?_
  intro w0 E0
  have kOk := k104
  have hp := (show rcF ⟨kd, te, vo, ix, ⟨t, ⟨a, b, o, x, y, z⟩⟩⟩ = true ∧ (1 ≤ kd) = True ∧ (kd ≤ 3) = True ∧ ((0 : Int) != 0) = false ∧ IntKind.u32.wrap ((recW [10 + kd] ⟨kd, te, vo, ix, ⟨t, ⟨a, b, o, x, y, z⟩⟩⟩).length : Nat) = ((recW [10 + kd] ⟨kd, te, vo, ix, ⟨t, ⟨a, b, o, x, y, z⟩⟩⟩).length : Nat) ∧ okB (recW [10 + kd] ⟨kd, te, vo, ix, ⟨t, ⟨a, b, o, x, y, z⟩⟩⟩) = True ∧ ((recW [10 + kd] ⟨kd, te, vo, ix, ⟨t, ⟨a, b, o, x, y, z⟩⟩⟩).length ≤ 1048576) = True ∧
      ((fourL (recW [10 + kd] ⟨kd, te, vo, ix, ⟨t, ⟨a, b, o, x, y, z⟩⟩⟩).length ++ fourL (crcF (recW [10 + kd] ⟨kd, te, vo, ix, ⟨t, ⟨a, b, o, x, y, z⟩⟩⟩))).length ≤ maxLen) = True ∧ ((fourL (recW [10 + kd] ⟨kd, te, vo, ix, ⟨t, ⟨a, b, o, x, y, z⟩⟩⟩).length ++ fourL (crcF (recW [10 + kd] ⟨kd, te, vo, ix, ⟨t, ⟨a, b, o, x, y, z⟩⟩⟩))).length * 1 ≤ 140737488355328) = True ∧
      (((fourL (recW [10 + kd] ⟨kd, te, vo, ix, ⟨t, ⟨a, b, o, x, y, z⟩⟩⟩).length ++ fourL (crcF (recW [10 + kd] ⟨kd, te, vo, ix, ⟨t, ⟨a, b, o, x, y, z⟩⟩⟩))) ++ recW [10 + kd] ⟨kd, te, vo, ix, ⟨t, ⟨a, b, o, x, y, z⟩⟩⟩).length ≤ maxLen) = True ∧ (((fourL (recW [10 + kd] ⟨kd, te, vo, ix, ⟨t, ⟨a, b, o, x, y, z⟩⟩⟩).length ++ fourL (crcF (recW [10 + kd] ⟨kd, te, vo, ix, ⟨t, ⟨a, b, o, x, y, z⟩⟩⟩))) ++ recW [10 + kd] ⟨kd, te, vo, ix, ⟨t, ⟨a, b, o, x, y, z⟩⟩⟩).length * 1 ≤ 140737488355328) = True from
    ⟨h, eq_true (by omega), eq_true (by omega), by simp, w32 (by omega) (by omega), eq_true hok, eq_true (by omega), eq_true (by unfold maxLen; simp only [List.length_append]; omega), eq_true (by simp only [List.length_append]; omega), eq_true (by unfold maxLen; simp only [List.length_append]; omega), eq_true (by simp only [List.length_append]; omega)⟩)
  refine hd ?_
  refine am_rs tabOk kOk rfl fun K Q1 hK => ?_
  refine go1 ?_
  refine hK _ ?_
  clear hK K Q1
  refine hd ?_
  refine am_rs tabOk kOk rfl fun K Q1 hK => ?_
  refine go1 ?_
  refine hK _ ?_
  clear hK K Q1
  refine hd ?_
  refine am_cond ?_
  refine go1 ?_
  refine hd ?_
  refine am_skip ?_
  refine go1 ?_
  refine hd ?_
  refine am_rs tabOk kOk rfl fun K Q1 hK => ?_
  refine go1 ?_
  refine hK _ ?_
  clear hK K Q1
  refine hd ?_
  refine am_rs tabOk kOk rfl fun K Q1 hK => ?_
  refine go1 ?_
  refine hK _ ?_
  clear hK K Q1
  refine am_tidy [(2, 1), (3, 2)] [3] 3 rfl ?_
  refine go1 ?_
  clear e h
  generalize recW [10 + kd] ⟨kd, te, vo, ix, ⟨t, ⟨a, b, o, x, y, z⟩⟩⟩ = W at *
  refine wk1 ?_
  refine am_retB [(6, 1)] rfl ?_ ?_ rfl <;> first | refine go ?_ | rfl
set_option maxHeartbeats 16000000 in
theorem recS2_tc (r : Rec) (h : rcF r = true) : TC Tryd.prog 55 [.agg r.cv] [] 1 (.c (.own 1 0 (frmL (recW [10 + r.kd] r)).length)) [(1, .arr 5 1 ((frmL (recW [10 + r.kd] r)).map bTr))] 2 := by
  have hW := recW_len h
  have hok := recW_ok h
  obtain ⟨h1, h2, h3, h4, h5⟩ := rec_small h
  obtain ⟨kd, te, vo, ix, ⟨t, ⟨a, b, o, x, y, z⟩⟩⟩ := r
  simp only at h1 h2 h3 h4 h5 hW hok
  simp only [Rec.cv, Cm.cv]
  have a1 := numL_len te
  have a2 := numL_len vo
  have a3 := numL_len ix
  refine tc_intro Tryd.func55 rfl 37 rfl (Nat.le_of_ble_eq_true rfl) (by decide) [2] rfl (by intro id x h; cases h) ?_
  intro w0 E0
  have kOk := k104
  have hp := (show IntKind.i64.wrap (10 + kd) = 10 + kd ∧ IntKind.u8.wrap (10 + kd) = 10 + kd from ⟨wrapN (by omega) (by omega), by rw [IntKind.wrap_u8']; omega⟩)
  refine am_rs tabOk kOk rfl fun K Q1 hK => ?_
  refine go1 ?_
  refine hK _ ?_
  clear hK K Q1
  refine am_rs tabOk kOk rfl fun K Q1 hK => ?_
  refine go1 ?_
  refine hK _ ?_
  clear hK K Q1
  refine am_tidy [(1, 1), (2, 2)] [1, 3] 3 rfl ?_
  refine go1 ?_
  clear hp
  refine am_st ⟨[(1, .c (.ptr 1 0)), (3, .c (.own 2 0 ([10 + kd] : List Int).length))], [(1, .cells [ci kd, ci te, ci vo, ci ix, ci t, ci a, ci b, ci o, cs x, cs y, cs z]), (2, .arr 5 1 (([10 + kd] : List Int).map bTr))], 3⟩ rfl ?_
  have hBl : ([10 + kd] : List Int).length = 1 := rfl
  generalize ([10 + kd] : List Int) = B at *
  have hk : kd = 1 ∨ kd = 2 ∨ kd = 3 := by omega
  rcases hk with rfl | rfl | rfl
  · have e : recW B ⟨1, te, vo, ix, ⟨t, ⟨a, b, o, x, y, z⟩⟩⟩ = (B ++ numL te) ++ numL vo := by simp [recW, recB]
    rw [e] at hW hok ⊢
    generalize hX : (B ++ numL te) ++ numL vo = X at *
    have hp := (show (te ≤ 9223372036854775807) = True ∧ (vo ≤ 9223372036854775807) = True ∧ ((1:Int) == 1) = true ∧ ((B ++ numL te).length ≤ maxLen) = True ∧ ((B ++ numL te).length * 1 ≤ 140737488355328) = True ∧ (B ++ numL te) ++ numL vo = X ∧ (X.length ≤ maxLen) = True ∧ (X.length * 1 ≤ 140737488355328) = True ∧ okB X = True ∧ (X.length ≤ 1048576) = True from
      ⟨eq_true (by omega), eq_true (by omega), by simp, eq_true (by unfold maxLen; rw [List.length_append]; omega), eq_true (by rw [List.length_append]; omega), hX, eq_true (by unfold maxLen; omega), eq_true (by omega), eq_true hok, eq_true (by omega)⟩)
    refine wk1 ?_
    refine am_retB [(7, 1)] rfl ?_ ?_ rfl <;> first | refine go ?_ | rfl
  · have hE := h5 rfl
    have e : recW B ⟨2, te, vo, ix, ⟨t, ⟨a, b, o, x, y, z⟩⟩⟩ = (B ++ numL ix) ++ entL ⟨t, ⟨a, b, o, x, y, z⟩⟩ := by simp [recW, recB]
    rw [e] at hW hok ⊢
    generalize hX : (B ++ numL ix) ++ entL ⟨t, ⟨a, b, o, x, y, z⟩⟩ = X at *
    have hp := (show (ix ≤ 9223372036854775807) = True ∧ entOk ⟨t, ⟨a, b, o, x, y, z⟩⟩ = true ∧ ((2:Int) == 1) = false ∧ ((2:Int) == 2) = true ∧ ((B ++ numL ix).length ≤ maxLen) = True ∧ ((B ++ numL ix).length * 1 ≤ 140737488355328) = True ∧ (B ++ numL ix) ++ entL ⟨t, ⟨a, b, o, x, y, z⟩⟩ = X ∧ (X.length ≤ maxLen) = True ∧ (X.length * 1 ≤ 140737488355328) = True ∧ okB X = True ∧ (X.length ≤ 1048576) = True from
      ⟨eq_true (by omega), hE, by simp, by simp, eq_true (by unfold maxLen; rw [List.length_append]; omega), eq_true (by rw [List.length_append]; omega), hX, eq_true (by unfold maxLen; omega), eq_true (by omega), eq_true hok, eq_true (by omega)⟩)
    refine wk1 ?_
    refine am_retB [(7, 1)] rfl ?_ ?_ rfl <;> first | refine go ?_ | rfl
  · have e : recW B ⟨3, te, vo, ix, ⟨t, ⟨a, b, o, x, y, z⟩⟩⟩ = B ++ numL ix := by simp [recW, recB]
    rw [e] at hW hok ⊢
    generalize hX : B ++ numL ix = X at *
    have hp := (show (ix ≤ 9223372036854775807) = True ∧ ((3:Int) == 1) = false ∧ ((3:Int) == 2) = false ∧ B ++ numL ix = X ∧ (X.length ≤ maxLen) = True ∧ (X.length * 1 ≤ 140737488355328) = True ∧ okB X = True ∧ (X.length ≤ 1048576) = True from
      ⟨eq_true (by omega), by simp, by simp, hX, eq_true (by unfold maxLen; omega), eq_true (by omega), eq_true hok, eq_true (by omega)⟩)
    refine wk1 ?_
    refine am_retB [(5, 1)] rfl ?_ ?_ rfl <;> first | refine go ?_ | rfl
def recF (r : Rec) : List Int := frmL (recW [10 + r.kd] r)
def recsL : List Rec → List Int
  | [] => []
  | r :: l => recF r ++ recsL l
theorem recsL_drop {l : List Rec} {i : Nat} {v : Rec} (h : l[i]? = some v) : recsL (l.drop i) = recF v ++ recsL (l.drop (i + 1)) := by
  have hi := (List.getElem?_eq_some_iff.1 h).1
  have e : l[i] = v := by rw [List.getElem?_eq_getElem hi] at h; exact Option.some.inj h
  rw [List.drop_eq_getElem_cons hi, recsL, e]
theorem recF_len {r : Rec} (h : rcF r = true) : (recF r).length ≤ 281 := by
  have := recW_len h
  have l1 := fourL_len (recW [10 + r.kd] r).length
  have l2 := fourL_len (crcF (recW [10 + r.kd] r))
  unfold recF frmL
  simp only [List.length_append]
  omega
theorem recsL_len : ∀ {l : List Rec}, rsAll l = true → (recsL l).length ≤ 281 * l.length
  | [], _ => by simp [recsL]
  | r :: l, h => by
    simp only [rsAll, Bool.and_eq_true] at h
    have h1 := recF_len h.1
    have h2 := recsL_len h.2
    rw [recsL, List.length_append, List.length_cons]
    omega
/-- The bytes of a row of records, none if one is ill-formed. -/
def recO (l : List Rec) : List Int := if rsF l = true then recsL l else []
theorem recO_len (l : List Rec) : (recO l).length ≤ 2301952 := by
  unfold recO
  split
  · rename_i h
    unfold rsF at h
    simp only [Bool.and_eq_true, decide_eq_true_eq] at h
    have := recsL_len h.2
    omega
  · simp
def kn105_0_1 (l : List Rec) : Option TV := if l.length ≤ 1048576 then some (bool (rsF l)) else none
def kn105_0_0 (r0 : List (List Tree)) : Option TV := (unRecs r0).bind (kn105_0_1)
def kn105_0 : List TV → Option TV
  | [.c (.t (.sl 11 r0))] => kn105_0_0 r0
  | _ => none
def kn105_1_1 (l : List Rec) : Option TV := if l.length ≤ 1048576 then some (bool (rsF l)) else none
def kn105_1_0 (r0 : List (List Tree)) : Option TV := (unRecs r0).bind (kn105_1_1)
def kn105_1 : List TV → Option TV
  | [.c (.t (.sl 11 r0))] => kn105_1_0 r0
  | _ => none
def kn105_call (f : FuncId) (args : List TV) : Option TV := if f = 57 then orO (kn105_0 args) (kn104.call f args) else if f = 54 then orO (kn105_1 args) (kn104.call f args) else kn104.call f args
def kn105 : Kn := { call := kn105_call, eqs := eqTys, callB := kn104.callB }
attribute [go_sem] kn105_0_0 kn105_0_1 kn105_0 kn105_1_0 kn105_1_1 kn105_1 kn105_call kn105
theorem kn105_ok : ∀ f args res, kn105_call f args = some res → TC Tryd.prog f args [] 1 res [] 1 := by
  intro f args res h
  unfold kn105_call at h
  split at h
  · rename_i e; subst e
    have hh := orO_elim h
    clear h
    rcases hh with h | h
    rotate_left
    · exact k104.call _ _ _ h
    unfold kn105_0 at h
    split at h
    · rename_i r0; unfold kn105_0_0 at h
      obtain ⟨l, e0, h⟩ := Option.bind_eq_some_iff.1 h
      unfold kn105_0_1 at h
      split at h
      · rename_i hc; cases h; rw [unRecs_ok e0]; exact rsI_tc l hc
      · cases h
    · cases h
  split at h
  · rename_i e; subst e
    have hh := orO_elim h
    clear h
    rcases hh with h | h
    rotate_left
    · exact k104.call _ _ _ h
    unfold kn105_1 at h
    split at h
    · rename_i r0; unfold kn105_1_0 at h
      obtain ⟨l, e0, h⟩ := Option.bind_eq_some_iff.1 h
      unfold kn105_1_1 at h
      split at h
      · rename_i hc; cases h; rw [unRecs_ok e0]; exact rsS_tc l hc
      · cases h
    · cases h
  · exact k104.call f args res h
theorem k105 : KnOk Tryd.prog kn105 := ⟨kn105_ok, eqTysOk, k104.callB⟩
def kn106_0_1 (r : Rec) : CB := if rcF r = true then some (.c (.own 1 0 (recF r).length), [(1, .arr 5 1 ((recF r).map bTr))], 2) else none
def kn106_0_0 (q0 : List Tree) : CB := (unRecT q0).bind (kn106_0_1)
def kn106_0 : List TV → List (Nat × AObj) → CB
  | [.c (.irp 102 q0)], [] => kn106_0_0 q0
  | _, _ => none
def kn106_1_1 (r : Rec) : CB := if rcF r = true then some (.c (.own 1 0 (recF r).length), [(1, .arr 5 1 ((recF r).map bTr))], 2) else none
def kn106_1_0 (q0 : List CV) : CB := (unRec q0).bind (kn106_1_1)
def kn106_1 : List TV → List (Nat × AObj) → CB
  | [.agg q0], [] => kn106_1_0 q0
  | _, _ => none
def kn106_call (f : FuncId) (args : List TV) (o : List (Nat × AObj)) : CB := if f = 50 then orO (kn106_0 args o) (kn105.callB f args o) else if f = 55 then orO (kn106_1 args o) (kn105.callB f args o) else kn105.callB f args o
def kn106 : Kn := { call := kn105.call, eqs := eqTys, callB := kn106_call }
attribute [go_sem] kn106_0_0 kn106_0_1 kn106_0 kn106_1_0 kn106_1_1 kn106_1 kn106_call kn106
theorem kn106_ok : ∀ f args o res o1 n1, kn106_call f args o = some (res, o1, n1) → TC Tryd.prog f args o (o.length + 1) res o1 n1 := by
  intro f args o res o1 n1 h
  unfold kn106_call at h
  split at h
  · rename_i e; subst e
    have hh := orO_elim h
    clear h
    rcases hh with h | h
    rotate_left
    · exact k105.callB _ _ _ _ _ _ h
    unfold kn106_0 at h
    split at h
    · rename_i q0; unfold kn106_0_0 at h
      have hb0 := Option.bind_eq_some_iff.1 h
      clear h
      obtain ⟨r, e0, h⟩ := hb0
      unfold kn106_0_1 at h
      split at h
      · rename_i hc; cases h; rw [unRecT_ok e0]; exact encRc_tc r hc
      · cases h
    · cases h
  split at h
  · rename_i e; subst e
    have hh := orO_elim h
    clear h
    rcases hh with h | h
    rotate_left
    · exact k105.callB _ _ _ _ _ _ h
    unfold kn106_1 at h
    split at h
    · rename_i q0; unfold kn106_1_0 at h
      have hb0 := Option.bind_eq_some_iff.1 h
      clear h
      obtain ⟨r, e0, h⟩ := hb0
      unfold kn106_1_1 at h
      split at h
      · rename_i hc; cases h; rw [unRec_ok e0]; exact recS2_tc r hc
      · cases h
    · cases h
  · exact k105.callB f args o res o1 n1 h
theorem k106 : KnOk Tryd.prog kn106 := ⟨k105.call, eqTysOk, kn106_ok⟩
set_option maxHeartbeats 16000000 in
theorem erI_tc (l : List Rec) (hl : l.length ≤ 1048576) : TC Tryd.prog 23 [ro 11 (l.map Rec.tr)] [] 1 (.c (.own 1 0 (recO l).length)) [(1, .arr 5 1 ((recO l).map bTr))] 2 := by
  refine tc_intro Tryd.func23 rfl 23 rfl (Nat.le_of_ble_eq_true rfl) (by decide) [2] rfl (by intro id x h; cases h) ?_
  intro w0 E0
  have kOk := k106
  refine am_rs tabOk kOk rfl fun K Q1 hK => ?_
  refine go ?_
  refine hK _ ?_
  clear hK K Q1
  refine am_rs tabOk kOk rfl fun K Q1 hK => ?_
  refine go ?_
  refine hK _ ?_
  clear hK K Q1
  refine am_ownNil 3 5 1 rfl ?_
  refine go ?_
  by_cases hr : rsF l = true
  rotate_left
  · have hr' : rsF l = false := by simpa using hr
    have e : recO l = [] := by simp [recO, hr]
    rw [e]
    have hp := And.intro (eq_true hl) hr'
    refine wk1 ?_
    refine am_retB [(1, 1)] rfl ?_ ?_ rfl <;> first | refine go ?_ | rfl
  have e : recO l = recsL l := by simp [recO, hr]
  rw [e]
  have hall : rsAll l = true := by unfold rsF at hr; simp only [Bool.and_eq_true] at hr; exact hr.2
  have hp := And.intro (eq_true hl) hr
  refine wk1 ?_
  refine am_tidy [(1, 1)] [0, 3, 10, 11] 2 rfl ?_
  refine go1 ?_
  clear hp
  refine am_loop (l.length + 1) ?_
  suffices key : ∀ (d k : Nat) (X : List Int), k + d = l.length → X ++ recsL (l.drop k) = recsL l → X.length ≤ 281 * k → amR Tryd.prog _ _ _ (d + 1) ⟨[(0, ro 11 (l.map Rec.tr)), (3, .c (.own 1 0 X.length)), (10, int (l.length : Nat)), (11, int (k : Nat))], [(1, .arr 5 1 (X.map bTr))], 2⟩ from key l.length 0 [] (by simp) (by simp) (by simp)
  intro d
  induction d with
  | zero =>
    intro k X hk hX hXl
    rw [List.drop_eq_nil_of_le (by omega), recsL, List.append_nil] at hX
    subst hX
    have hp := (show ((k : Int) < (l.length : Int)) = False from eq_false (by omega))
    refine amR_succ ?_
    refine wk1 ?_
    refine am_retB [(1, 1)] rfl ?_ ?_ rfl <;> first | refine go ?_ | rfl
  | succ d ih =>
    intro k X hk hX hXl
    obtain ⟨e, he⟩ : ∃ e, l[k]? = some e := ⟨l[k]'(by omega), List.getElem?_eq_getElem (by omega)⟩
    rw [recsL_drop he, ← List.append_assoc] at hX
    have hB := rsAll_mem hall e (List.mem_of_getElem? he)
    have hel := recF_len hB
    have ihk := ih (k + 1) (X ++ recF e) (by omega) hX (by rw [List.length_append]; omega)
    have hp := (show ((k : Int) < (l.length : Int)) = True ∧ (k < l.length) = True ∧ (l.map Rec.tr)[k]? = some e.tr ∧ IntKind.i64.wrap ((k : Int) + 1) = ((k + 1 : Nat) : Int) ∧ rcF e = true ∧ ((X ++ recF e).length ≤ maxLen) = True ∧ ((X ++ recF e).length * 1 ≤ 140737488355328) = True from
      ⟨eq_true (by omega), eq_true (by omega), by rw [List.getElem?_map, he]; rfl, by rw [wrapN (by omega) (by omega)]; rfl, hB, eq_true (by unfold maxLen; rw [List.length_append]; omega), eq_true (by rw [List.length_append]; omega)⟩)
    clear ih
    obtain ⟨kd, te, vo, ix, ⟨t, ⟨a, b, o, x, y, z⟩⟩⟩ := e
    simp only [Rec.tr] at hp
    refine amR_succ ?_
    refine wk1 ?_
    refine am_reg tabOk kOk rfl fun K Q1 hK => ?_
    refine go1 ?_
    rw [if_pos (by decide)]
    refine go1 ?_
    refine hK _ ?_
    clear hK K Q1
    refine wk1 ?_
    refine amR_tidy [(3, 1)] [0, 3, 10, 11] 2 rfl ?_
    refine go1 ?_
    exact ihk
set_option maxHeartbeats 16000000 in
theorem erS_tc (l : List Rec) (hl : l.length ≤ 1048576) : TC Tryd.prog 21 [ro 11 (l.map Rec.tr)] [] 1 (.c (.own 1 0 (recO l).length)) [(1, .arr 5 1 ((recO l).map bTr))] 2 := by
  refine tc_intro Tryd.func21 rfl 24 rfl (Nat.le_of_ble_eq_true rfl) (by decide) [2] rfl (by intro id x h; cases h) ?_
  intro w0 E0
  have kOk := k106
  by_cases hr : rsF l = true
  rotate_left
  · have hr' : rsF l = false := by simpa using hr
    have e : recO l = [] := by simp [recO, hr]
    rw [e]
    have hp := And.intro (eq_true hl) hr'
    refine wk1 ?_
    refine am_retB [(1, 1)] rfl ?_ ?_ rfl <;> first | refine go ?_ | rfl
  have e : recO l = recsL l := by simp [recO, hr]
  rw [e]
  have hall : rsAll l = true := by unfold rsF at hr; simp only [Bool.and_eq_true] at hr; exact hr.2
  have hp := And.intro (eq_true hl) hr
  refine wk1 ?_
  refine am_tidy [(1, 1)] [0, 3, 4] 2 rfl ?_
  refine go1 ?_
  clear hp
  refine am_loop (l.length + 1) ?_
  suffices key : ∀ (d k : Nat) (X : List Int), k + d = l.length → X ++ recsL (l.drop k) = recsL l → X.length ≤ 281 * k → amR Tryd.prog _ _ _ (d + 1) ⟨[(0, ro 11 (l.map Rec.tr)), (3, .c (.own 1 0 X.length)), (4, int (k : Nat))], [(1, .arr 5 1 (X.map bTr))], 2⟩ from key l.length 0 [] (by simp) (by simp) (by simp)
  intro d
  induction d with
  | zero =>
    intro k X hk hX hXl
    rw [List.drop_eq_nil_of_le (by omega), recsL, List.append_nil] at hX
    subst hX
    have hp := (show ((k : Int) < (l.length : Int)) = False from eq_false (by omega))
    refine amR_succ ?_
    refine wk1 ?_
    refine am_retB [(1, 1)] rfl ?_ ?_ rfl <;> first | refine go ?_ | rfl
  | succ d ih =>
    intro k X hk hX hXl
    obtain ⟨e, he⟩ : ∃ e, l[k]? = some e := ⟨l[k]'(by omega), List.getElem?_eq_getElem (by omega)⟩
    rw [recsL_drop he, ← List.append_assoc] at hX
    have hB := rsAll_mem hall e (List.mem_of_getElem? he)
    have hel := recF_len hB
    have ihk := ih (k + 1) (X ++ recF e) (by omega) hX (by rw [List.length_append]; omega)
    have hp := (show ((k : Int) < (l.length : Int)) = True ∧ (k < l.length) = True ∧ (l.map Rec.tr)[k]? = some e.tr ∧ IntKind.i64.wrap ((k : Int) + 1) = ((k + 1 : Nat) : Int) ∧ rcF e = true ∧ ((X ++ recF e).length ≤ maxLen) = True ∧ ((X ++ recF e).length * 1 ≤ 140737488355328) = True from
      ⟨eq_true (by omega), eq_true (by omega), by rw [List.getElem?_map, he]; rfl, by rw [wrapN (by omega) (by omega)]; rfl, hB, eq_true (by unfold maxLen; rw [List.length_append]; omega), eq_true (by rw [List.length_append]; omega)⟩)
    clear ih
    obtain ⟨kd, te, vo, ix, ⟨t, ⟨a, b, o, x, y, z⟩⟩⟩ := e
    simp only [Rec.tr] at hp
    refine amR_succ ?_
    refine wk1 ?_
    refine amR_tidy [(3, 1)] [0, 3, 4] 2 rfl ?_
    refine go1 ?_
    exact ihk
end Go.Proofs.YtaolgdpkcbfocaaDoorA
