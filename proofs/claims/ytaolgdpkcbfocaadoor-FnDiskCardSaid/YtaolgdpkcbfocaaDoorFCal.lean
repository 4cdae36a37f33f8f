/- Calls as frames: the pieces. -/
import Derived.Test.YtaolgdpkcbfocaaDoorFEnc3
namespace Go.Proofs.YtaolgdpkcbfocaaDoorA
open Go.Proofs
set_option autoImplicit false
set_option linter.unusedVariables false
set_option linter.unusedSimpArgs false
set_option maxRecDepth 4000
theorem dom2 {o p : AObj} (id : Nat) (x : AObj) (h : look id [(1, o), (2, p)] = some x) : id < 3 := by
  simp only [look] at h
  (repeat' split at h) <;> first | omega | cases h
def unCm : List CV → Option Cm
  | [.t (.v (.int .i64 a)), .t (.v (.int .i64 q)), .t (.v (.int .i64 o)), .t (.v (.string x)), .t (.v (.string y)), .t (.v (.string z))] => some ⟨a, q, o, x, y, z⟩
  | _ => none
theorem unCm_ok {xs : List CV} {c : Cm} (h : unCm xs = some c) : xs = c.cv := by
  unfold unCm at h
  split at h
  · cases h; rfl
  · cases h
attribute [go_sem] unCm Cm.cv
deriving instance DecidableEq for Cm
/-- A command's bytes. -/
def cmdB (c : Cm) : List Int := numL c.cl ++ (numL c.sq ++ (numL c.op ++ (txtL c.k ++ (txtL c.v ++ txtL c.o))))
theorem cm_small {c : Cm} (h : cmF c = 0) : c.cl ≤ 8 ∧ c.sq ≤ 1073741824 ∧ c.op ≤ 4 ∧ c.k.size ≤ 64 ∧ c.v.size ≤ 64 ∧ c.o.size ≤ 64 := by
  unfold cmF at h
  (repeat' split at h) <;> omega
theorem cmdB_len {c : Cm} (h : cmF c = 0) : (cmdB c).length ≤ 252 := by
  obtain ⟨h1, h2, h3, h4, h5, h6⟩ := cm_small h
  have a1 := numL_len c.cl
  have a2 := numL_len c.sq
  have a3 := numL_len c.op
  have a4 := txtL_len c.k
  have a5 := txtL_len c.v
  have a6 := txtL_len c.o
  unfold cmdB
  simp only [List.length_append]
  omega
theorem txtL_ok (s : ByteArray) : okB (txtL s) := okB_app (numL_ok _) (strL_ok _)
theorem cmdB_ok (c : Cm) : okB (cmdB c) := okB_app (numL_ok _) (okB_app (numL_ok _) (okB_app (numL_ok _) (okB_app (txtL_ok _) (okB_app (txtL_ok _) (txtL_ok _)))))
set_option maxHeartbeats 16000000 in
theorem cmdW_tc (c : Cm) (bs : List Int) (h : cmF c = 0) (hb : bs.length ≤ 100000) : TC Tryd.prog 135 [.c (.ptr 1 0), .agg c.cv] [(1, .cells [.own 2 0 bs.length]), (2, .arr 5 1 (bs.map bTr))] 3
    (.tup []) [(1, .cells [.own 3 0 (bs ++ cmdB c).length]), (3, .arr 5 1 ((bs ++ cmdB c).map bTr))] 4 := by
  obtain ⟨h1, h2, h3, h4, h5, h6⟩ := cm_small h
  obtain ⟨cl, sq, op, x, y, z⟩ := c
  simp only at h1 h2 h3 h4 h5 h6
  have a1 := numL_len cl
  have a2 := numL_len sq
  have a3 := numL_len op
  have e : bs ++ cmdB ⟨cl, sq, op, x, y, z⟩ = (bs ++ (numL cl ++ (numL sq ++ numL op))) ++ (txtL x ++ (txtL y ++ txtL z)) := by simp [cmdB]
  rw [e]
  simp only [Cm.cv]
  refine tc_intro Tryd.func135 rfl 22 rfl (Nat.le_of_ble_eq_true rfl) (by decide) [] rfl dom2 ?_
  intro w0 E0
  have kOk := k52
  have hp := (show (cl ≤ 9223372036854775807) = True ∧ (sq ≤ 9223372036854775807) = True ∧ (op ≤ 9223372036854775807) = True ∧ (x.size ≤ 1024) = True ∧ (y.size ≤ 1024) = True ∧ (z.size ≤ 1024) = True ∧ (bs.length ≤ 1048576) = True ∧ ((bs ++ (numL cl ++ (numL sq ++ numL op))).length ≤ 1000000) = True from
    ⟨eq_true (by omega), eq_true (by omega), eq_true (by omega), eq_true (by omega), eq_true (by omega), eq_true (by omega), eq_true (by omega), eq_true (by simp only [List.length_append]; omega)⟩)
  refine wk1 ?_
  refine ret_norm [(1, 1), (2, 2), (7, 3)] rfl ?_ ?_
  · rfl
  · rfl
def zeroC (c : Cm) : Prop := c.cl = 0 ∧ c.sq = 0 ∧ c.op = 0 ∧ c.k.size = 0 ∧ c.v.size = 0 ∧ c.o.size = 0
instance (c : Cm) : Decidable (zeroC c) := inferInstanceAs (Decidable (c.cl = 0 ∧ c.sq = 0 ∧ c.op = 0 ∧ c.k.size = 0 ∧ c.v.size = 0 ∧ c.o.size = 0))
/-- A call's fault: no command is none. -/
def calF (c : Cm) : Int := if zeroC c then 1 else cmF c
theorem bbeq (x : ByteArray) : (x == { data := #[] }) = decide (x.size = 0) := by
  rw [beq_toListBytes, ByteArray.toList_eq, ByteArray.toList_eq]
  obtain ⟨⟨l⟩⟩ := x
  cases l <;> simp [ByteArray.size]
def kn70_0_1 (c : Cm) : Option TV := some (int (cmF c))
def kn70_0_0 (r0 : List CV) : Option TV := (unCm r0).bind (kn70_0_1)
def kn70_0 : List TV → Option TV
  | [.agg r0] => kn70_0_0 r0
  | _ => none
def kn70_1_1 (c : Cm) : Option TV := some (int (cmF c))
def kn70_1_0 (r0 : List CV) : Option TV := (unCm r0).bind (kn70_1_1)
def kn70_1 : List TV → Option TV
  | [.agg r0] => kn70_1_0 r0
  | _ => none
def kn70_call (f : FuncId) (args : List TV) : Option TV := if f = 51 then orO (kn70_0 args) (kn55.call f args) else if f = 110 then orO (kn70_1 args) (kn55.call f args) else kn55.call f args
def kn70 : Kn := { call := kn70_call, eqs := eqTys, callB := kn55.callB }
attribute [go_sem] kn70_0_0 kn70_0_1 kn70_0 kn70_1_0 kn70_1_1 kn70_1 kn70_call kn70
theorem kn70_ok : ∀ f args res, kn70_call f args = some res → TC Tryd.prog f args [] 1 res [] 1 := by
  intro f args res h
  unfold kn70_call at h
  split at h
  · rename_i e; subst e
    have hh := orO_elim h
    clear h
    rcases hh with h | h
    rotate_left
    · exact k55.call _ _ _ h
    unfold kn70_0 at h
    split at h
    · rename_i r0; unfold kn70_0_0 at h
      obtain ⟨c, e0, h⟩ := Option.bind_eq_some_iff.1 h
      unfold kn70_0_1 at h
      cases h; rw [unCm_ok e0]; exact cmdS_tc c
    · cases h
  split at h
  · rename_i e; subst e
    have hh := orO_elim h
    clear h
    rcases hh with h | h
    rotate_left
    · exact k55.call _ _ _ h
    unfold kn70_1 at h
    split at h
    · rename_i r0; unfold kn70_1_0 at h
      obtain ⟨c, e0, h⟩ := Option.bind_eq_some_iff.1 h
      unfold kn70_1_1 at h
      cases h; rw [unCm_ok e0]; exact cmdI_tc c
    · cases h
  · exact k55.call f args res h
theorem k70 : KnOk Tryd.prog kn70 := ⟨kn70_ok, eqTysOk, k55.callB⟩
set_option maxHeartbeats 8000000 in
theorem calI_tc (c : Cm) : TC Tryd.prog 133 [.c (.ptr 1 0)] [(1, .cells c.cv)] 2 (int (calF c)) [(1, .cells c.cv)] 2 := by
  refine tc_intro Tryd.func133 rfl 14 rfl (Nat.le_of_ble_eq_true rfl) (by decide) [2] rfl dom1 ?_
  intro w0 E0
  have kOk := k70
  obtain ⟨a, q, o, x, y, z⟩ := c
  simp only [Cm.cv]
  repeat' (fail_if_success (with_reducible apply amR_id)); first
    | (refine guardP_mk (fun h => ?_) (fun h => ?_) <;> (refine go ?_; try simp only [decide_eq_true_eq, decide_eq_false_iff_not, Bool.not_true, Bool.not_false, Bool.not_eq_true', Bool.not_eq_false', beq_iff_eq, bne_iff_ne, beq_eq_false_iff_ne, bne_eq_false_iff_eq, ne_eq, Bool.false_eq_true, reduceCtorEq] at h))
    | (refine hK _ ?_; clear hK K Q1)
    | (refine ⟨by first | omega | (simp only [List.length_map, List.length_append, List.length_cons, List.length_nil, List.length_replicate, List.length_drop, List.length_take]; omega), by unfold maxLen; first | omega | (simp only [List.length_map, List.length_append, List.length_cons, List.length_nil, List.length_replicate, List.length_drop, List.length_take]; omega), ?_⟩)
    | (refine hK _ _ rfl ?_; clear hK K; try refine go ?_)
    | (refine am_retB [(1, 1)] rfl ?_ ?_ rfl <;> first | refine go ?_ | rfl)
    | (refine ret_norm [(1, 1)] rfl ?_ ?_ <;> first | refine go ?_ | rfl)
    | (refine wkp ?_)
    | (refine am_rs tabOk kOk rfl fun K Q1 hK => ?_; refine go ?_)
    | (refine am_reg tabOk kOk rfl fun K Q1 hK => ?_; refine go ?_)
    | (refine am_ds mixed tabOk kOk rfl rfl fun K hK => ?_; refine go ?_)
    | (refine am_dreg mixed tabOk kOk rfl rfl fun K hK => ?_; refine go ?_)
  all_goals (simp only [calF, zeroC, bbeq, decide_eq_true_eq, decide_eq_false_iff_not, Bool.and_eq_true, beq_iff_eq, TV.c.injEq, CV.t.injEq, Tree.v.injEq, Value.int.injEq, true_and] at *; (repeat' split) <;> first | omega | grind)
def calW (bs : List Int) (c : Cm) : List Int := bs ++ cmdB c
theorem calF0 {c : Cm} (h : calF c = 0) : cmF c = 0 := by
  unfold calF at h
  split at h
  · cases h
  · exact h
def kn71_0_2 (n : Nat) (c : Cm) (bs : List Int) : CB := if n = bs.length ∧ cmF c = 0 ∧ bs.length ≤ 100000 then some (.tup [], [(1, .cells [.own 3 0 (calW bs c).length]), (3, .arr 5 1 ((calW bs c).map bTr))], 4) else none
def kn71_0_1 (n : Nat) (r0 : List (List Tree)) (c : Cm) : CB := (unBys r0).bind (kn71_0_2 n c)
def kn71_0_0 (n : Nat) (q0 : List CV) (r0 : List (List Tree)) : CB := (unCm q0).bind (kn71_0_1 n r0)
def kn71_0 : List TV → List (Nat × AObj) → CB
  | [.c (.ptr 1 0), .agg q0], [(1, .cells [.own 2 0 n]), (2, .arr 5 1 r0)] => kn71_0_0 n q0 r0
  | _, _ => none
def kn71_call (f : FuncId) (args : List TV) (o : List (Nat × AObj)) : CB := if f = 135 then orO (kn71_0 args o) (kn70.callB f args o) else kn70.callB f args o
def kn71 : Kn := { call := kn70.call, eqs := eqTys, callB := kn71_call }
attribute [go_sem] kn71_0_0 kn71_0_1 kn71_0_2 kn71_0 kn71_call kn71
theorem kn71_ok : ∀ f args o res o1 n1, kn71_call f args o = some (res, o1, n1) → TC Tryd.prog f args o (o.length + 1) res o1 n1 := by
  intro f args o res o1 n1 h
  unfold kn71_call at h
  split at h
  · rename_i e; subst e
    have hh := orO_elim h
    clear h
    rcases hh with h | h
    rotate_left
    · exact k70.callB _ _ _ _ _ _ h
    unfold kn71_0 at h
    split at h
    · rename_i q0 n r0; unfold kn71_0_0 at h
      have hb0 := Option.bind_eq_some_iff.1 h
      clear h
      obtain ⟨c, e0, h⟩ := hb0
      unfold kn71_0_1 at h
      have hb1 := Option.bind_eq_some_iff.1 h
      clear h
      obtain ⟨bs, e1, h⟩ := hb1
      unfold kn71_0_2 at h
      split at h
      · rename_i hc; cases h; rw [unCm_ok e0, unBys_ok e1]; obtain ⟨rfl, h1, h2⟩ := hc; exact cmdW_tc c bs h1 h2
      · cases h
    · cases h
  · exact k70.callB f args o res o1 n1 h
theorem k71 : KnOk Tryd.prog kn71 := ⟨k70.call, eqTysOk, kn71_ok⟩
theorem calW_tc (c : Cm) (bs : List Int) (h : cmF c = 0) (hb : bs.length ≤ 10000) : TC Tryd.prog 134 [.c (.ptr 1 0), .c (.ptr 2 0)] [(1, .cells c.cv), (2, .cells [.own 3 0 bs.length]), (3, .arr 5 1 (bs.map bTr))] 4
    (.tup []) [(1, .cells c.cv), (2, .cells [.own 4 0 (calW bs c).length]), (4, .arr 5 1 ((calW bs c).map bTr))] 5 := by
  have h' := h
  obtain ⟨cl, sq, op, x, y, z⟩ := c
  simp only [Cm.cv]
  refine tc_intro Tryd.func134 rfl 10 rfl (Nat.le_of_ble_eq_true rfl) (by decide) [] rfl dom3 ?_
  intro w0 E0
  have kOk := k71
  have hp := And.intro (eq_true h') (show (bs.length ≤ 100000) = True from eq_true (by omega))
  refine wk1 ?_
  refine ret_norm [(1, 1), (2, 2), (3, 3), (4, 4)] rfl ?_ ?_
  · rfl
  · rfl
theorem firstC_tc (c : Cm) : TC Tryd.prog 82 [.c (.ifp 87 1 0)] [(1, .cells c.cv)] 2 (lit (.int .u8 7)) [(1, .cells c.cv)] 2 := by
  refine tc_intro Tryd.func82 rfl 32 rfl (Nat.le_of_ble_eq_true rfl) (by decide) [2] rfl dom1 ?_
  intro w0 E0
  have kOk := k70
  refine wk ?_
  refine am_retB [(1, 1)] rfl ?_ ?_ rfl <;> first | refine go ?_ | rfl
set_option maxHeartbeats 16000000 in
theorem cmdS2_tc (c : Cm) (h : cmF c = 0) : TC Tryd.prog 52 [.agg c.cv] [] 1 (.c (.own 1 0 (cmdB c).length)) [(1, .arr 5 1 ((cmdB c).map bTr))] 2 := by
  obtain ⟨h1, h2, h3, h4, h5, h6⟩ := cm_small h
  obtain ⟨cl, sq, op, x, y, z⟩ := c
  simp only at h1 h2 h3 h4 h5 h6
  have a1 := numL_len cl
  have a2 := numL_len sq
  have a3 := numL_len op
  have a4 := txtL_len x
  have a5 := txtL_len y
  have a6 := txtL_len z
  have e : cmdB ⟨cl, sq, op, x, y, z⟩ = (((((numL cl ++ numL sq) ++ numL op) ++ txtL x) ++ txtL y) ++ txtL z) := by simp [cmdB]
  rw [e]
  simp only [Cm.cv]
  refine tc_intro Tryd.func52 rfl 32 rfl (Nat.le_of_ble_eq_true rfl) (by decide) [2] rfl (by intro id x h; cases h) ?_
  intro w0 E0
  have kOk := k55
  have hp := (show (cl ≤ 9223372036854775807) = True ∧ (sq ≤ 9223372036854775807) = True ∧ (op ≤ 9223372036854775807) = True ∧ (x.size ≤ 1048576) = True ∧ (y.size ≤ 1048576) = True ∧ (z.size ≤ 1048576) = True ∧
      ((numL cl ++ numL sq).length ≤ maxLen) = True ∧ ((numL cl ++ numL sq).length * 1 ≤ 140737488355328) = True ∧ (((numL cl ++ numL sq) ++ numL op).length ≤ maxLen) = True ∧ (((numL cl ++ numL sq) ++ numL op).length * 1 ≤ 140737488355328) = True ∧
      ((((numL cl ++ numL sq) ++ numL op) ++ txtL x).length ≤ maxLen) = True ∧ ((((numL cl ++ numL sq) ++ numL op) ++ txtL x).length * 1 ≤ 140737488355328) = True ∧ (((((numL cl ++ numL sq) ++ numL op) ++ txtL x) ++ txtL y).length ≤ maxLen) = True ∧ (((((numL cl ++ numL sq) ++ numL op) ++ txtL x) ++ txtL y).length * 1 ≤ 140737488355328) = True ∧
      ((((((numL cl ++ numL sq) ++ numL op) ++ txtL x) ++ txtL y) ++ txtL z).length ≤ maxLen) = True ∧ ((((((numL cl ++ numL sq) ++ numL op) ++ txtL x) ++ txtL y) ++ txtL z).length * 1 ≤ 140737488355328) = True from
    ⟨eq_true (by omega), eq_true (by omega), eq_true (by omega), eq_true (by omega), eq_true (by omega), eq_true (by omega),
      eq_true (by unfold maxLen; simp only [List.length_append]; omega), eq_true (by simp only [List.length_append]; omega), eq_true (by unfold maxLen; simp only [List.length_append]; omega), eq_true (by simp only [List.length_append]; omega), eq_true (by unfold maxLen; simp only [List.length_append]; omega), eq_true (by simp only [List.length_append]; omega), eq_true (by unfold maxLen; simp only [List.length_append]; omega), eq_true (by simp only [List.length_append]; omega), eq_true (by unfold maxLen; simp only [List.length_append]; omega), eq_true (by simp only [List.length_append]; omega)⟩)
  refine wk1 ?_
  refine am_retB [(12, 1)] rfl ?_ ?_ rfl <;> first | refine go ?_ | rfl
end Go.Proofs.YtaolgdpkcbfocaaDoorA
