/- Replies as frames: both programs make the same. -/
import Derived.Test.YtaolgdpkcbfocaaDoorFEnc
namespace Go.Proofs.YtaolgdpkcbfocaaDoorA
open Go.Proofs
set_option autoImplicit false
set_option linter.unusedVariables false
set_option linter.unusedSimpArgs false
set_option maxRecDepth 4000
def okB (l : List Int) : Prop := ∀ n, n ∈ l → 0 ≤ n ∧ n ≤ 255
instance (l : List Int) : Decidable (okB l) := inferInstanceAs (Decidable (∀ n, n ∈ l → 0 ≤ n ∧ n ≤ 255))
def kn53_0_1 (r : Rp) : CB := some (int (rpF r), [(1, .cells r.cv)], 2)
def kn53_0_0 (q0 : List CV) : CB := (unRp q0).bind (kn53_0_1)
def kn53_0 : List TV → List (Nat × AObj) → CB
  | [.c (.ptr 1 0)], [(1, .cells q0)] => kn53_0_0 q0
  | _, _ => none
def kn53_1_2 (n : Nat) (r : Rp) (bs : List Int) : CB := if n = bs.length ∧ rpF r = 0 ∧ bs.length ≤ 10000 then some (.tup [], [(1, .cells r.cv), (2, .cells [.own 4 0 (repW bs r).length]), (4, .arr 5 1 ((repW bs r).map bTr))], 5) else none
def kn53_1_1 (n : Nat) (r0 : List (List Tree)) (r : Rp) : CB := (unBys r0).bind (kn53_1_2 n r)
def kn53_1_0 (n : Nat) (q0 : List CV) (r0 : List (List Tree)) : CB := (unRp q0).bind (kn53_1_1 n r0)
def kn53_1 : List TV → List (Nat × AObj) → CB
  | [.c (.ptr 1 0), .c (.ptr 2 0)], [(1, .cells q0), (2, .cells [.own 3 0 n]), (3, .arr 5 1 r0)] => kn53_1_0 n q0 r0
  | _, _ => none
def kn53_2_1 (r : Rp) : CB := some (lit (.int .u8 8), [(1, .cells r.cv)], 2)
def kn53_2_0 (q0 : List CV) : CB := (unRp q0).bind (kn53_2_1)
def kn53_2 : List TV → List (Nat × AObj) → CB
  | [.c (.ifp 83 1 0)], [(1, .cells q0)] => kn53_2_0 q0
  | _, _ => none
def kn53_3_0 (x : Int) : CB := some (.c (.own 1 0 (fourL x).length), [(1, .arr 5 1 ((fourL x).map bTr))], 2)
def kn53_3 : List TV → List (Nat × AObj) → CB
  | [.c (.t (.v (.int .u32 x)))], [] => kn53_3_0 x
  | _, _ => none
def kn53_4_0 (x : Int) : CB := if 0 ≤ x ∧ x ≤ 4294967295 then some (.c (.own 1 0 (fourL x).length), [(1, .arr 5 1 ((fourL x).map bTr))], 2) else none
def kn53_4 : List TV → List (Nat × AObj) → CB
  | [.c (.t (.v (.int .u32 x)))], [] => kn53_4_0 x
  | _, _ => none
def kn53_5_0 (s : ByteArray) : CB := if s.size ≤ 1048576 then some (.c (.own 1 0 (txtL s).length), [(1, .arr 5 1 ((txtL s).map bTr))], 2) else none
def kn53_5 : List TV → List (Nat × AObj) → CB
  | [.c (.t (.v (.string s)))], [] => kn53_5_0 s
  | _, _ => none
def kn53_call (f : FuncId) (args : List TV) (o : List (Nat × AObj)) : CB := if f = 129 then orO (kn53_0 args o) (kn52.callB f args o) else if f = 130 then orO (kn53_1 args o) (kn52.callB f args o) else if f = 82 then orO (kn53_2 args o) (kn52.callB f args o) else if f = 83 then orO (kn53_3 args o) (kn52.callB f args o) else if f = 80 then orO (kn53_4 args o) (kn52.callB f args o) else if f = 48 then orO (kn53_5 args o) (kn52.callB f args o) else kn52.callB f args o
def kn53 : Kn := { call := kn52.call, eqs := eqTys, callB := kn53_call }
attribute [go_sem] kn53_0_0 kn53_0_1 kn53_0 kn53_1_0 kn53_1_1 kn53_1_2 kn53_1 kn53_2_0 kn53_2_1 kn53_2 kn53_3_0 kn53_3 kn53_4_0 kn53_4 kn53_5_0 kn53_5 kn53_call kn53
theorem kn53_ok : ∀ f args o res o1 n1, kn53_call f args o = some (res, o1, n1) → TC Tryd.prog f args o (o.length + 1) res o1 n1 := by
  intro f args o res o1 n1 h
  unfold kn53_call at h
  split at h
  · rename_i e; subst e
    have hh := orO_elim h
    clear h
    rcases hh with h | h
    rotate_left
    · exact k52.callB _ _ _ _ _ _ h
    unfold kn53_0 at h
    split at h
    · rename_i q0; unfold kn53_0_0 at h
      have hb0 := Option.bind_eq_some_iff.1 h
      clear h
      obtain ⟨r, e0, h⟩ := hb0
      unfold kn53_0_1 at h
      cases h; rw [unRp_ok e0]; exact rpI_tc r
    · cases h
  split at h
  · rename_i e; subst e
    have hh := orO_elim h
    clear h
    rcases hh with h | h
    rotate_left
    · exact k52.callB _ _ _ _ _ _ h
    unfold kn53_1 at h
    split at h
    · rename_i q0 n r0; unfold kn53_1_0 at h
      have hb0 := Option.bind_eq_some_iff.1 h
      clear h
      obtain ⟨r, e0, h⟩ := hb0
      unfold kn53_1_1 at h
      have hb1 := Option.bind_eq_some_iff.1 h
      clear h
      obtain ⟨bs, e1, h⟩ := hb1
      unfold kn53_1_2 at h
      split at h
      · rename_i hc; cases h; rw [unRp_ok e0, unBys_ok e1]; obtain ⟨rfl, h1, h2⟩ := hc; exact repW_tc r bs h1 h2
      · cases h
    · cases h
  split at h
  · rename_i e; subst e
    have hh := orO_elim h
    clear h
    rcases hh with h | h
    rotate_left
    · exact k52.callB _ _ _ _ _ _ h
    unfold kn53_2 at h
    split at h
    · rename_i q0; unfold kn53_2_0 at h
      have hb0 := Option.bind_eq_some_iff.1 h
      clear h
      obtain ⟨r, e0, h⟩ := hb0
      unfold kn53_2_1 at h
      cases h; rw [unRp_ok e0]; exact first_tc r
    · cases h
  split at h
  · rename_i e; subst e
    have hh := orO_elim h
    clear h
    rcases hh with h | h
    rotate_left
    · exact k52.callB _ _ _ _ _ _ h
    unfold kn53_3 at h
    split at h
    · rename_i x; unfold kn53_3_0 at h
      cases h; exact little_tc x
    · cases h
  split at h
  · rename_i e; subst e
    have hh := orO_elim h
    clear h
    rcases hh with h | h
    rotate_left
    · exact k52.callB _ _ _ _ _ _ h
    unfold kn53_4 at h
    split at h
    · rename_i x; unfold kn53_4_0 at h
      split at h
      · rename_i hc; cases h; exact fourS_tc x hc.1 (Int.lt_add_one_of_le hc.2)
      · cases h
    · cases h
  split at h
  · rename_i e; subst e
    have hh := orO_elim h
    clear h
    rcases hh with h | h
    rotate_left
    · exact k52.callB _ _ _ _ _ _ h
    unfold kn53_5 at h
    split at h
    · rename_i s; unfold kn53_5_0 at h
      split at h
      · rename_i hc; cases h; exact text_tc s hc
      · cases h
    · cases h
  · exact k52.callB f args o res o1 n1 h
theorem k53 : KnOk Tryd.prog kn53 := ⟨k52.call, eqTysOk, kn53_ok⟩
def kn54_0_1 (l : List Int) : Option TV := if okB l ∧ l.length ≤ 1048576 then some (lit (.int .u32 (crcF l))) else none
def kn54_0_0 (r0 : List (List Tree)) : Option TV := (unBys r0).bind (kn54_0_1)
def kn54_0 : List TV → Option TV
  | [.c (.t (.sl 1 r0))] => kn54_0_0 r0
  | _ => none
def kn54_1_1 (l : List Int) : Option TV := if okB l ∧ l.length ≤ 1048576 then some (lit (.int .u32 (crcF l))) else none
def kn54_1_0 (r0 : List (List Tree)) : Option TV := (unBys r0).bind (kn54_1_1)
def kn54_1 : List TV → Option TV
  | [.c (.t (.sl 1 r0))] => kn54_1_0 r0
  | _ => none
def kn54_2_1 (r : Rp) : Option TV := some (int (rpF r))
def kn54_2_0 (r0 : List CV) : Option TV := (unRp r0).bind (kn54_2_1)
def kn54_2 : List TV → Option TV
  | [.agg r0] => kn54_2_0 r0
  | _ => none
def kn54_call (f : FuncId) (args : List TV) : Option TV := if f = 84 then orO (kn54_0 args) (kn53.call f args) else if f = 81 then orO (kn54_1 args) (kn53.call f args) else if f = 46 then orO (kn54_2 args) (kn53.call f args) else kn53.call f args
def kn54 : Kn := { call := kn54_call, eqs := eqTys, callB := kn53.callB }
attribute [go_sem] kn54_0_0 kn54_0_1 kn54_0 kn54_1_0 kn54_1_1 kn54_1 kn54_2_0 kn54_2_1 kn54_2 kn54_call kn54
theorem kn54_ok : ∀ f args res, kn54_call f args = some res → TC Tryd.prog f args [] 1 res [] 1 := by
  intro f args res h
  unfold kn54_call at h
  split at h
  · rename_i e; subst e
    have hh := orO_elim h
    clear h
    rcases hh with h | h
    rotate_left
    · exact k53.call _ _ _ h
    unfold kn54_0 at h
    split at h
    · rename_i r0; unfold kn54_0_0 at h
      obtain ⟨l, e0, h⟩ := Option.bind_eq_some_iff.1 h
      unfold kn54_0_1 at h
      split at h
      · rename_i hc; cases h; rw [unBys_ok e0]; exact crcI_tc l hc.1 hc.2
      · cases h
    · cases h
  split at h
  · rename_i e; subst e
    have hh := orO_elim h
    clear h
    rcases hh with h | h
    rotate_left
    · exact k53.call _ _ _ h
    unfold kn54_1 at h
    split at h
    · rename_i r0; unfold kn54_1_0 at h
      obtain ⟨l, e0, h⟩ := Option.bind_eq_some_iff.1 h
      unfold kn54_1_1 at h
      split at h
      · rename_i hc; cases h; rw [unBys_ok e0]; exact crcS_tc l hc.1 hc.2
      · cases h
    · cases h
  split at h
  · rename_i e; subst e
    have hh := orO_elim h
    clear h
    rcases hh with h | h
    rotate_left
    · exact k53.call _ _ _ h
    unfold kn54_2 at h
    split at h
    · rename_i r0; unfold kn54_2_0 at h
      obtain ⟨r, e0, h⟩ := Option.bind_eq_some_iff.1 h
      unfold kn54_2_1 at h
      cases h; rw [unRp_ok e0]; exact rpS_tc r
    · cases h
  · exact k53.call f args res h
theorem k54 : KnOk Tryd.prog kn54 := ⟨kn54_ok, eqTysOk, k53.callB⟩
/-- A frame: its length, its checksum, its body. -/
def frmL (b : List Int) : List Int := (fourL b.length ++ fourL (crcF b)) ++ b
theorem numL_ok (v : Int) : okB (numL v) := fun n h => numB_rng 9 v n h
theorem strL_ok (s : ByteArray) : okB (strL s) := fun n h => by
  unfold strL at h
  obtain ⟨b, _, rfl⟩ := List.mem_map.1 h
  have := b.toNat_lt
  omega
theorem okB_app {a b : List Int} (h : okB a) (k : okB b) : okB (a ++ b) := fun n hn => (List.mem_append.1 hn).elim (h n) (k n)
theorem repB_ok (r : Rp) : okB (repB r) := okB_app (numL_ok _) (okB_app (numL_ok _) (okB_app (numL_ok _) (okB_app (numL_ok _) (okB_app (okB_app (numL_ok _) (strL_ok _)) (numL_ok _)))))
theorem repW_ok (r : Rp) : okB (repW [8] r) := okB_app (fun n h => by simp at h; omega) (repB_ok r)
theorem repW_len {r : Rp} (h : rpF r = 0) : (repW [8] r).length ≤ 201 := by
  have := repB_len h
  unfold repW
  rw [List.length_append]
  simp
  omega
set_option maxHeartbeats 16000000 in
theorem encR_tc (r : Rp) (h : rpF r = 0) : TC Tryd.prog 50 [.c (.ifp 83 1 0)] [(1, .cells r.cv)] 2 (.c (.own 2 0 (frmL (repW [8] r)).length)) [(1, .cells r.cv), (2, .arr 5 1 ((frmL (repW [8] r)).map bTr))] 3 := by
  have hW := repW_len h
  have hok := repW_ok r
  have hc := crcF_rng (repW [8] r)
  have e : frmL (repW [8] r) = (fourL (repW [8] r).length ++ fourL (crcF (repW [8] r))) ++ repW [8] r := rfl
  rw [e]
  have l1 := fourL_len (repW [8] r).length
  have l2 := fourL_len (crcF (repW [8] r))
  obtain ⟨cl, sq, kd, rs, v, g⟩ := r
  simp only [Rp.cv]
  refine tc_intro Tryd.func50 rfl 36 rfl (Nat.le_of_ble_eq_true rfl) (by decide) [2] rfl dom1 ?_
  intro w0 E0
  have kOk := k54
  have hp := (show rpF ⟨cl, sq, kd, rs, v, g⟩ = 0 ∧ ((0 : Int) != 0) = false ∧ IntKind.u32.wrap ((repW [8] ⟨cl, sq, kd, rs, v, g⟩).length : Nat) = ((repW [8] ⟨cl, sq, kd, rs, v, g⟩).length : Nat) ∧ okB (repW [8] ⟨cl, sq, kd, rs, v, g⟩) = True ∧ ((repW [8] ⟨cl, sq, kd, rs, v, g⟩).length ≤ 1048576) = True ∧
      ((fourL (repW [8] ⟨cl, sq, kd, rs, v, g⟩).length ++ fourL (crcF (repW [8] ⟨cl, sq, kd, rs, v, g⟩))).length ≤ maxLen) = True ∧ ((fourL (repW [8] ⟨cl, sq, kd, rs, v, g⟩).length ++ fourL (crcF (repW [8] ⟨cl, sq, kd, rs, v, g⟩))).length * 1 ≤ 140737488355328) = True ∧
      (((fourL (repW [8] ⟨cl, sq, kd, rs, v, g⟩).length ++ fourL (crcF (repW [8] ⟨cl, sq, kd, rs, v, g⟩))) ++ repW [8] ⟨cl, sq, kd, rs, v, g⟩).length ≤ maxLen) = True ∧ (((fourL (repW [8] ⟨cl, sq, kd, rs, v, g⟩).length ++ fourL (crcF (repW [8] ⟨cl, sq, kd, rs, v, g⟩))) ++ repW [8] ⟨cl, sq, kd, rs, v, g⟩).length * 1 ≤ 140737488355328) = True from
    ⟨h, by simp, w32 (by omega) (by omega), eq_true hok, eq_true (by omega), eq_true (by unfold maxLen; simp only [List.length_append]; omega), eq_true (by simp only [List.length_append]; omega), eq_true (by unfold maxLen; simp only [List.length_append]; omega), eq_true (by simp only [List.length_append]; omega)⟩)
  refine hd ?_
  refine am_rs tabOk kOk rfl fun K Q1 hK => ?_
  refine go1 ?_
  refine hK _ ?_
  clear hK K Q1
  refine hd ?_
  refine am_rs tabOk kOk rfl fun K Q1 hK => ?_
  refine go1 ?_
  refine hK _ ?_
  clear hK K Q1
  refine hd ?_
  refine am_cond ?_
  refine go1 ?_
  refine hd ?_
  refine am_skip ?_
  refine go1 ?_
  refine hd ?_
  refine am_rs tabOk kOk rfl fun K Q1 hK => ?_
  refine go1 ?_
  refine hK _ ?_
  clear hK K Q1
  refine hd ?_
  refine am_rs tabOk kOk rfl fun K Q1 hK => ?_
  refine go1 ?_
  refine hK _ ?_
  clear hK K Q1
  refine am_tidy [(1, 1), (3, 2), (4, 3)] [3] 4 rfl ?_
  refine go1 ?_
  clear e h
  generalize repW [8] ⟨cl, sq, kd, rs, v, g⟩ = W at *
  refine wk1 ?_
  refine am_retB [(1, 1), (7, 2)] rfl ?_ ?_ rfl <;> first | refine go ?_ | rfl
theorem encR0_tc (r : Rp) (h : rpF r ≠ 0) : TC Tryd.prog 50 [.c (.ifp 83 1 0)] [(1, .cells r.cv)] 2 (lit (.slice none 0 0)) [(1, .cells r.cv)] 2 := by
  obtain ⟨cl, sq, kd, rs, v, g⟩ := r
  simp only [Rp.cv]
  refine tc_intro Tryd.func50 rfl 36 rfl (Nat.le_of_ble_eq_true rfl) (by decide) [2] rfl dom1 ?_
  intro w0 E0
  have kOk := k54
  have hp := (show (rpF ⟨cl, sq, kd, rs, v, g⟩ != 0) = true from by simpa using h)
  refine wk1 ?_
  refine am_retB [(1, 1)] rfl ?_ ?_ rfl <;> first | refine go ?_ | rfl
end Go.Proofs.YtaolgdpkcbfocaaDoorA
