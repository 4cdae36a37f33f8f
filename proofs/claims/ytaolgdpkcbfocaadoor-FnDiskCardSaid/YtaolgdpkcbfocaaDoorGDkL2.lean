/- Disks written to: the law's contract. -/
import Derived.Test.YtaolgdpkcbfocaaDoorGDkL
import Derived.Test.YtaolgdpkcbfocaaDoorFOpen
namespace Go.Proofs.YtaolgdpkcbfocaaDoorA
open Go.Proofs
set_option autoImplicit false
set_option linter.unusedVariables false
set_option linter.unusedSimpArgs false
set_option maxRecDepth 4000
structure Da where
  code : Int
  d : Dk
deriving instance DecidableEq for Da
def Da.cv (d : Da) : List CV := [ci d.code, ci d.d.cap, ci d.d.syn, .t (.sl 1 (d.d.data.map bTr))]
def unDa : List CV → Option Da
  | [.t (.v (.int .i64 c)), .t (.v (.int .i64 a)), .t (.v (.int .i64 b)), .t (.sl 1 xs)] => (unBys xs).map fun l => Da.mk c ⟨a, b, l⟩
  | _ => none
theorem unDa_ok {xs : List CV} {c : Da} (h : unDa xs = some c) : xs = c.cv := by
  unfold unDa at h
  split at h
  · rename_i ys
    cases hy : unBys ys with
    | none => rw [hy] at h; cases h
    | some l => rw [hy] at h; cases h; rw [unBys_ok hy]; rfl
  · cases h
attribute [go_sem] unDa Da.cv
theorem eqDa_tc (c d : Da) (hl : c.d.data.length ≤ 1073741824) : TC Tryd.prog 36 [.agg c.cv, .agg d.cv] [] 1 (bool (decide (c = d))) [] 1 := by
  refine tc_intro Tryd.func36 rfl 16 rfl (Nat.le_of_ble_eq_true rfl) (by decide) [4] rfl (by intro id x h; cases h) ?_
  intro w0 E0
  have kOk := k120
  obtain ⟨q, ⟨c, s, l⟩⟩ := c
  obtain ⟨q', ⟨c', s', l'⟩⟩ := d
  have hp : (l.length ≤ 1073741824) = True := eq_true hl
  simp only [Da.cv]
  repeat' (fail_if_success (with_reducible apply amR_id)); first
    | (refine guardP_mk (fun h => ?_) (fun h => ?_) <;> (refine go1 ?_; try simp only [decide_eq_true_eq, decide_eq_false_iff_not, Bool.not_true, Bool.not_false, Bool.not_eq_true', Bool.not_eq_false', beq_iff_eq, bne_iff_ne, beq_eq_false_iff_ne, bne_eq_false_iff_eq, ne_eq, Bool.false_eq_true, reduceCtorEq] at h))
    | (refine hK _ ?_; clear hK K Q1)
    | (refine ⟨by first | omega | (simp only [List.length_map, List.length_append, List.length_cons, List.length_nil, List.length_replicate, List.length_drop, List.length_take]; omega), by unfold maxLen; first | omega | (simp only [List.length_map, List.length_append, List.length_cons, List.length_nil, List.length_replicate, List.length_drop, List.length_take]; omega), ?_⟩)
    | (refine hK _ _ rfl ?_; clear hK K; try refine go1 ?_)
    | (refine am_retP rfl ?_ rfl; first | refine go ?_ | rfl)
    | (refine am_retC [] rfl ?_ rfl rfl; first | refine go ?_ | rfl)
    | (refine wkq ?_)
    | (refine am_rs tabOk kOk rfl fun K Q1 hK => ?_; refine go1 ?_)
    | (refine am_reg tabOk kOk rfl fun K Q1 hK => ?_; refine go1 ?_)
    | (refine am_ds mixed tabOk kOk rfl rfl fun K hK => ?_; refine go1 ?_)
    | (refine am_dreg mixed tabOk kOk rfl rfl fun K hK => ?_; refine go1 ?_)
  all_goals simp_all
theorem eqDa0_tc (q a b : Int) : TC Tryd.prog 36 [.agg [ci q, ci a, ci b, .t (.v (.slice none 0 0))], .agg [ci q, ci a, ci b, .t (.v (.slice none 0 0))]] [] 1 (bool true) [] 1 := by
  refine tc_intro Tryd.func36 rfl 16 rfl (Nat.le_of_ble_eq_true rfl) (by decide) [4] rfl (by intro id x h; cases h) ?_
  intro w0 E0
  have kOk := k120
  have hp := (show ∀ x : Int, (x != x) = false from fun x => by simp)
  repeat' (fail_if_success (with_reducible apply amR_id)); first
    | (refine guardP_mk (fun h => ?_) (fun h => ?_) <;> (refine go1 ?_; try simp only [decide_eq_true_eq, decide_eq_false_iff_not, Bool.not_true, Bool.not_false, Bool.not_eq_true', Bool.not_eq_false', beq_iff_eq, bne_iff_ne, beq_eq_false_iff_ne, bne_eq_false_iff_eq, ne_eq, Bool.false_eq_true, reduceCtorEq] at h))
    | (refine hK _ ?_; clear hK K Q1)
    | (refine ⟨by first | omega | (simp only [List.length_map, List.length_append, List.length_cons, List.length_nil, List.length_replicate, List.length_drop, List.length_take]; omega), by unfold maxLen; first | omega | (simp only [List.length_map, List.length_append, List.length_cons, List.length_nil, List.length_replicate, List.length_drop, List.length_take]; omega), ?_⟩)
    | (refine hK _ _ rfl ?_; clear hK K; try refine go1 ?_)
    | (refine am_retP rfl ?_ rfl; first | refine go ?_ | rfl)
    | (refine am_retC [] rfl ?_ rfl rfl; first | refine go ?_ | rfl)
    | (refine wkq ?_)
    | (refine am_rs tabOk kOk rfl fun K Q1 hK => ?_; refine go1 ?_)
    | (refine am_reg tabOk kOk rfl fun K Q1 hK => ?_; refine go1 ?_)
    | (refine am_ds mixed tabOk kOk rfl rfl fun K hK => ?_; refine go1 ?_)
    | (refine am_dreg mixed tabOk kOk rfl rfl fun K hK => ?_; refine go1 ?_)
  all_goals rfl
theorem heldDa_tc (d : Da) (k : Int) (h : d.d.data = mkBs d.d.data.length k) (h0 : 0 ≤ k) (hk : k + (d.d.data.length : Nat) ≤ 1099511627776) : TC Tryd.prog 40 [.agg d.cv, int k] [] 1 (int (k + (d.d.data.length : Nat))) [] 1 := by
  refine tc_intro Tryd.func40 rfl 12 rfl (Nat.le_of_ble_eq_true rfl) (by decide) [4] rfl (by intro id x h; cases h) ?_
  intro w0 E0
  have kOk := k120
  obtain ⟨q, ⟨c, s, l⟩⟩ := d
  have hp : (l = mkBs l.length k) = True ∧ (0 ≤ k) = True ∧ (k + (l.length : Nat) ≤ 1099511627776) = True ∧ (k + (l.length : Int) < 0) = False := ⟨eq_true h, eq_true h0, eq_true hk, eq_false (by omega)⟩
  simp only [Da.cv]
  repeat' (fail_if_success (with_reducible apply amR_id)); first
    | (refine guardP_mk (fun h => ?_) (fun h => ?_) <;> (refine go1 ?_; try simp only [decide_eq_true_eq, decide_eq_false_iff_not, Bool.not_true, Bool.not_false, Bool.not_eq_true', Bool.not_eq_false', beq_iff_eq, bne_iff_ne, beq_eq_false_iff_ne, bne_eq_false_iff_eq, ne_eq, Bool.false_eq_true, reduceCtorEq] at h))
    | (refine hK _ ?_; clear hK K Q1)
    | (refine ⟨by first | omega | (simp only [List.length_map, List.length_append, List.length_cons, List.length_nil, List.length_replicate, List.length_drop, List.length_take]; omega), by unfold maxLen; first | omega | (simp only [List.length_map, List.length_append, List.length_cons, List.length_nil, List.length_replicate, List.length_drop, List.length_take]; omega), ?_⟩)
    | (refine hK _ _ rfl ?_; clear hK K; try refine go1 ?_)
    | (refine am_retP rfl ?_ rfl; first | refine go ?_ | rfl)
    | (refine am_retC [] rfl ?_ rfl rfl; first | refine go ?_ | rfl)
    | (refine wkq ?_)
    | (refine am_rs tabOk kOk rfl fun K Q1 hK => ?_; refine go1 ?_)
    | (refine am_reg tabOk kOk rfl fun K Q1 hK => ?_; refine go1 ?_)
    | (refine am_ds mixed tabOk kOk rfl rfl fun K hK => ?_; refine go1 ?_)
    | (refine am_dreg mixed tabOk kOk rfl rfl fun K hK => ?_; refine go1 ?_)
  all_goals rfl
theorem heldDa0_tc (q a b k : Int) (h0 : 0 ≤ k) : TC Tryd.prog 40 [.agg [ci q, ci a, ci b, .t (.v (.slice none 0 0))], int k] [] 1 (int k) [] 1 := by
  refine tc_intro Tryd.func40 rfl 12 rfl (Nat.le_of_ble_eq_true rfl) (by decide) [4] rfl (by intro id x h; cases h) ?_
  intro w0 E0
  have kOk := k120
  have hp : (0 ≤ k) = True ∧ (k < 0) = False := ⟨eq_true h0, eq_false (by omega)⟩
  repeat' (fail_if_success (with_reducible apply amR_id)); first
    | (refine guardP_mk (fun h => ?_) (fun h => ?_) <;> (refine go1 ?_; try simp only [decide_eq_true_eq, decide_eq_false_iff_not, Bool.not_true, Bool.not_false, Bool.not_eq_true', Bool.not_eq_false', beq_iff_eq, bne_iff_ne, beq_eq_false_iff_ne, bne_eq_false_iff_eq, ne_eq, Bool.false_eq_true, reduceCtorEq] at h))
    | (refine hK _ ?_; clear hK K Q1)
    | (refine ⟨by first | omega | (simp only [List.length_map, List.length_append, List.length_cons, List.length_nil, List.length_replicate, List.length_drop, List.length_take]; omega), by unfold maxLen; first | omega | (simp only [List.length_map, List.length_append, List.length_cons, List.length_nil, List.length_replicate, List.length_drop, List.length_take]; omega), ?_⟩)
    | (refine hK _ _ rfl ?_; clear hK K; try refine go1 ?_)
    | (refine am_retP rfl ?_ rfl; first | refine go ?_ | rfl)
    | (refine am_retC [] rfl ?_ rfl rfl; first | refine go ?_ | rfl)
    | (refine wkq ?_)
    | (refine am_rs tabOk kOk rfl fun K Q1 hK => ?_; refine go1 ?_)
    | (refine am_reg tabOk kOk rfl fun K Q1 hK => ?_; refine go1 ?_)
    | (refine am_ds mixed tabOk kOk rfl rfl fun K hK => ?_; refine go1 ?_)
    | (refine am_dreg mixed tabOk kOk rfl rfl fun K hK => ?_; refine go1 ?_)
  all_goals rfl
theorem markDa_tc (q a b : Int) (l : List Int) (k : Int) (h0 : 0 ≤ k) (hk : k + (l.length : Nat) ≤ 1099511627776) : TC Tryd.prog 39 [.agg [ci q, ci a, ci b, .own 1 0 l.length], int k] [(1, .arr 5 1 (l.map bTr))] 2 (int (k + (l.length : Nat))) [(1, .arr 5 1 ((mkBs l.length k).map bTr))] 2 := by
  refine tc_intro Tryd.func39 rfl 10 rfl (Nat.le_of_ble_eq_true rfl) (by decide) [4] rfl dom1 ?_
  intro w0 E0
  have kOk := k120
  have hp : ((0 ≤ k) = True) ∧ ((k + (l.length : Nat) ≤ 1099511627776) = True) := ⟨eq_true h0, eq_true hk⟩
  refine wk1 ?_
  refine am_retB [(1, 1)] rfl ?_ ?_ rfl <;> first | refine go ?_ | rfl
theorem markDa0_tc (q a b k : Int) : TC Tryd.prog 39 [.agg [ci q, ci a, ci b, .t (.v (.slice none 0 0))], int k] [] 1 (int k) [] 1 := by
  refine tc_intro Tryd.func39 rfl 10 rfl (Nat.le_of_ble_eq_true rfl) (by decide) [4] rfl (by intro id x h; cases h) ?_
  intro w0 E0
  have kOk := k120
  refine wk ?_
  refine am_retP rfl ?_ rfl
  first | rfl | (refine go ?_; rfl)
def kn121_0_2 (c : Da) (d : Da) : Option TV := if c.d.data.length ≤ 1073741824 then some (bool (decide (c = d))) else none
def kn121_0_1 (r1 : List CV) (c : Da) : Option TV := (unDa r1).bind (kn121_0_2 c)
def kn121_0_0 (r0 : List CV) (r1 : List CV) : Option TV := (unDa r0).bind (kn121_0_1 r1)
def kn121_0 : List TV → Option TV
  | [.agg r0, .agg r1] => kn121_0_0 r0 r1
  | _ => none
def kn121_1_1 (k : Int) (d : Da) : Option TV := if d.d.data = mkBs d.d.data.length k ∧ 0 ≤ k ∧ k + (d.d.data.length : Nat) ≤ 1099511627776 then some (int (k + (d.d.data.length : Nat))) else none
def kn121_1_0 (k : Int) (r0 : List CV) : Option TV := (unDa r0).bind (kn121_1_1 k)
def kn121_1 : List TV → Option TV
  | [.agg r0, .c (.t (.v (.int .i64 k)))] => kn121_1_0 k r0
  | _ => none
def kn121_call (f : FuncId) (args : List TV) : Option TV := if f = 36 then orO (kn121_0 args) (kn120.call f args) else if f = 40 then orO (kn121_1 args) (kn120.call f args) else kn120.call f args
def kn121 : Kn := { call := kn121_call, eqs := eqTys, callB := kn120.callB }
attribute [go_sem] kn121_0_0 kn121_0_1 kn121_0_2 kn121_0 kn121_1_0 kn121_1_1 kn121_1 kn121_call kn121
theorem kn121_ok : ∀ f args res, kn121_call f args = some res → TC Tryd.prog f args [] 1 res [] 1 := by
  intro f args res h
  unfold kn121_call at h
  split at h
  · rename_i e; subst e
    have hh := orO_elim h
    clear h
    rcases hh with h | h
    rotate_left
    · exact k120.call _ _ _ h
    unfold kn121_0 at h
    split at h
    · rename_i r0 r1; unfold kn121_0_0 at h
      obtain ⟨c, e0, h⟩ := Option.bind_eq_some_iff.1 h
      unfold kn121_0_1 at h
      obtain ⟨d, e1, h⟩ := Option.bind_eq_some_iff.1 h
      unfold kn121_0_2 at h
      split at h
      · rename_i hc; cases h; rw [unDa_ok e0, unDa_ok e1]; exact eqDa_tc c d hc
      · cases h
    · cases h
  split at h
  · rename_i e; subst e
    have hh := orO_elim h
    clear h
    rcases hh with h | h
    rotate_left
    · exact k120.call _ _ _ h
    unfold kn121_1 at h
    split at h
    · rename_i r0 k; unfold kn121_1_0 at h
      obtain ⟨d, e0, h⟩ := Option.bind_eq_some_iff.1 h
      unfold kn121_1_1 at h
      split at h
      · rename_i hc; cases h; rw [unDa_ok e0]; exact heldDa_tc d k hc.1 hc.2.1 hc.2.2
      · cases h
    · cases h
  · exact k120.call f args res h
theorem k121 : KnOk Tryd.prog kn121 := ⟨kn121_ok, eqTysOk, k120.callB⟩
def kn122_0_1 (q : Int) (a : Int) (b : Int) (n : Nat) (k : Int) (l : List Int) : CB := if n = l.length ∧ 0 ≤ k ∧ k + (l.length : Nat) ≤ 1099511627776 then some (int (k + (l.length : Nat)), [(1, .arr 5 1 ((mkBs l.length k).map bTr))], 2) else none
def kn122_0_0 (q : Int) (a : Int) (b : Int) (n : Nat) (k : Int) (r0 : List (List Tree)) : CB := (unBys r0).bind (kn122_0_1 q a b n k)
def kn122_0 : List TV → List (Nat × AObj) → CB
  | [.agg [.t (.v (.int .i64 q)), .t (.v (.int .i64 a)), .t (.v (.int .i64 b)), .own 1 0 n], .c (.t (.v (.int .i64 k)))], [(1, .arr 5 1 r0)] => kn122_0_0 q a b n k r0
  | _, _ => none
def kn122_1_0 (q : Int) (a : Int) (b : Int) (q2 : Int) (a2 : Int) (b2 : Int) : CB := if q = q2 ∧ a = a2 ∧ b = b2 then some (bool true, [], 1) else none
def kn122_1 : List TV → List (Nat × AObj) → CB
  | [.agg [.t (.v (.int .i64 q)), .t (.v (.int .i64 a)), .t (.v (.int .i64 b)), .t (.v (.slice none 0 0))], .agg [.t (.v (.int .i64 q2)), .t (.v (.int .i64 a2)), .t (.v (.int .i64 b2)), .t (.v (.slice none 0 0))]], [] => kn122_1_0 q a b q2 a2 b2
  | _, _ => none
def kn122_2_0 (q : Int) (a : Int) (b : Int) (k : Int) : CB := if 0 ≤ k then some (int k, [], 1) else none
def kn122_2 : List TV → List (Nat × AObj) → CB
  | [.agg [.t (.v (.int .i64 q)), .t (.v (.int .i64 a)), .t (.v (.int .i64 b)), .t (.v (.slice none 0 0))], .c (.t (.v (.int .i64 k)))], [] => kn122_2_0 q a b k
  | _, _ => none
def kn122_3_2 (d : Dk) (rs : List Rec) : CB := if dkF d = true ∧ rs.length ≤ 1048576 then some (.agg [ci (dwC d rs), ci d.cap, ci d.syn, .own 1 0 (dwD d rs).length], [(1, .arr 5 1 ((dwD d rs).map bTr))], 2) else none
def kn122_3_1 (r0 : List (List Tree)) (d : Dk) : CB := (unRecs r0).bind (kn122_3_2 d)
def kn122_3_0 (q0 : List CV) (r0 : List (List Tree)) : CB := (unDk q0).bind (kn122_3_1 r0)
def kn122_3 : List TV → List (Nat × AObj) → CB
  | [.agg q0, .c (.t (.sl 11 r0))], [] => kn122_3_0 q0 r0
  | _, _ => none
def kn122_4_2 (d : Dk) (rs : List Rec) : CB := if dkF d = true ∧ rs.length ≤ 1048576 then some (.agg [ci (dwC d rs), ci d.cap, ci d.syn, .own 1 0 (dwD d rs).length], [(1, .arr 5 1 ((dwD d rs).map bTr))], 2) else none
def kn122_4_1 (r0 : List (List Tree)) (d : Dk) : CB := (unRecs r0).bind (kn122_4_2 d)
def kn122_4_0 (q0 : List CV) (r0 : List (List Tree)) : CB := (unDk q0).bind (kn122_4_1 r0)
def kn122_4 : List TV → List (Nat × AObj) → CB
  | [.agg q0, .c (.t (.sl 11 r0))], [] => kn122_4_0 q0 r0
  | _, _ => none
def kn122_call (f : FuncId) (args : List TV) (o : List (Nat × AObj)) : CB := if f = 39 then orO (kn122_0 args o) (kn121.callB f args o) else if f = 36 then orO (kn122_1 args o) (kn121.callB f args o) else if f = 40 then orO (kn122_2 args o) (kn121.callB f args o) else if f = 35 then orO (kn122_3 args o) (kn121.callB f args o) else if f = 33 then orO (kn122_4 args o) (kn121.callB f args o) else kn121.callB f args o
def kn122 : Kn := { call := kn121.call, eqs := eqTys, callB := kn122_call }
attribute [go_sem] kn122_0_0 kn122_0_1 kn122_0 kn122_1_0 kn122_1 kn122_2_0 kn122_2 kn122_3_0 kn122_3_1 kn122_3_2 kn122_3 kn122_4_0 kn122_4_1 kn122_4_2 kn122_4 kn122_call kn122
theorem kn122_ok : ∀ f args o res o1 n1, kn122_call f args o = some (res, o1, n1) → TC Tryd.prog f args o (o.length + 1) res o1 n1 := by
  intro f args o res o1 n1 h
  unfold kn122_call at h
  split at h
  · rename_i e; subst e
    have hh := orO_elim h
    clear h
    rcases hh with h | h
    rotate_left
    · exact k121.callB _ _ _ _ _ _ h
    unfold kn122_0 at h
    split at h
    · rename_i q a b n k r0; unfold kn122_0_0 at h
      have hb0 := Option.bind_eq_some_iff.1 h
      clear h
      obtain ⟨l, e0, h⟩ := hb0
      unfold kn122_0_1 at h
      split at h
      · rename_i hc; cases h; rw [unBys_ok e0]; obtain ⟨rfl, h1, h2⟩ := hc; exact markDa_tc q a b l k h1 h2
      · cases h
    · cases h
  split at h
  · rename_i e; subst e
    have hh := orO_elim h
    clear h
    rcases hh with h | h
    rotate_left
    · exact k121.callB _ _ _ _ _ _ h
    unfold kn122_1 at h
    split at h
    · rename_i q a b q2 a2 b2; unfold kn122_1_0 at h
      split at h
      · rename_i hc; cases h; obtain ⟨rfl, rfl, rfl⟩ := hc; exact eqDa0_tc q a b
      · cases h
    · cases h
  split at h
  · rename_i e; subst e
    have hh := orO_elim h
    clear h
    rcases hh with h | h
    rotate_left
    · exact k121.callB _ _ _ _ _ _ h
    unfold kn122_2 at h
    split at h
    · rename_i q a b k; unfold kn122_2_0 at h
      split at h
      · rename_i hc; cases h; exact heldDa0_tc q a b k hc
      · cases h
    · cases h
  split at h
  · rename_i e; subst e
    have hh := orO_elim h
    clear h
    rcases hh with h | h
    rotate_left
    · exact k121.callB _ _ _ _ _ _ h
    unfold kn122_3 at h
    split at h
    · rename_i q0 r0; unfold kn122_3_0 at h
      have hb0 := Option.bind_eq_some_iff.1 h
      clear h
      obtain ⟨d, e0, h⟩ := hb0
      unfold kn122_3_1 at h
      have hb1 := Option.bind_eq_some_iff.1 h
      clear h
      obtain ⟨rs, e1, h⟩ := hb1
      unfold kn122_3_2 at h
      split at h
      · rename_i hc; cases h; rw [unDk_ok e0, unRecs_ok e1]; exact dwI_tc d rs hc.1 hc.2
      · cases h
    · cases h
  split at h
  · rename_i e; subst e
    have hh := orO_elim h
    clear h
    rcases hh with h | h
    rotate_left
    · exact k121.callB _ _ _ _ _ _ h
    unfold kn122_4 at h
    split at h
    · rename_i q0 r0; unfold kn122_4_0 at h
      have hb0 := Option.bind_eq_some_iff.1 h
      clear h
      obtain ⟨d, e0, h⟩ := hb0
      unfold kn122_4_1 at h
      have hb1 := Option.bind_eq_some_iff.1 h
      clear h
      obtain ⟨rs, e1, h⟩ := hb1
      unfold kn122_4_2 at h
      split at h
      · rename_i hc; cases h; rw [unDk_ok e0, unRecs_ok e1]; exact dwS_tc d rs hc.1 hc.2
      · cases h
    · cases h
  · exact k121.callB f args o res o1 n1 h
theorem k122 : KnOk Tryd.prog kn122 := ⟨k121.call, eqTysOk, kn122_ok⟩
def kn123_0_0 (q : Int) (a : Int) (b : Int) (k : Int) : CB := some (int k, [], 1)
def kn123_0 : List TV → List (Nat × AObj) → CB
  | [.agg [.t (.v (.int .i64 q)), .t (.v (.int .i64 a)), .t (.v (.int .i64 b)), .t (.v (.slice none 0 0))], .c (.t (.v (.int .i64 k)))], [] => kn123_0_0 q a b k
  | _, _ => none
def kn123_1_2 (d : Dk) (rs : List Rec) : CB := if dkF d = false then some (.agg [ci 1, ci 0, ci 0, .t (.v (.slice none 0 0))], [], 1) else none
def kn123_1_1 (r0 : List (List Tree)) (d : Dk) : CB := (unRecs r0).bind (kn123_1_2 d)
def kn123_1_0 (q0 : List CV) (r0 : List (List Tree)) : CB := (unDk q0).bind (kn123_1_1 r0)
def kn123_1 : List TV → List (Nat × AObj) → CB
  | [.agg q0, .c (.t (.sl 11 r0))], [] => kn123_1_0 q0 r0
  | _, _ => none
def kn123_2_2 (d : Dk) (rs : List Rec) : CB := if dkF d = false then some (.agg [ci 1, ci 0, ci 0, .t (.v (.slice none 0 0))], [], 1) else none
def kn123_2_1 (r0 : List (List Tree)) (d : Dk) : CB := (unRecs r0).bind (kn123_2_2 d)
def kn123_2_0 (q0 : List CV) (r0 : List (List Tree)) : CB := (unDk q0).bind (kn123_2_1 r0)
def kn123_2 : List TV → List (Nat × AObj) → CB
  | [.agg q0, .c (.t (.sl 11 r0))], [] => kn123_2_0 q0 r0
  | _, _ => none
def kn123_call (f : FuncId) (args : List TV) (o : List (Nat × AObj)) : CB := if f = 39 then orO (kn123_0 args o) (kn122.callB f args o) else if f = 35 then orO (kn123_1 args o) (kn122.callB f args o) else if f = 33 then orO (kn123_2 args o) (kn122.callB f args o) else kn122.callB f args o
def kn123 : Kn := { call := kn122.call, eqs := eqTys, callB := kn123_call }
attribute [go_sem] kn123_0_0 kn123_0 kn123_1_0 kn123_1_1 kn123_1_2 kn123_1 kn123_2_0 kn123_2_1 kn123_2_2 kn123_2 kn123_call kn123
theorem kn123_ok : ∀ f args o res o1 n1, kn123_call f args o = some (res, o1, n1) → TC Tryd.prog f args o (o.length + 1) res o1 n1 := by
  intro f args o res o1 n1 h
  unfold kn123_call at h
  split at h
  · rename_i e; subst e
    have hh := orO_elim h
    clear h
    rcases hh with h | h
    rotate_left
    · exact k122.callB _ _ _ _ _ _ h
    unfold kn123_0 at h
    split at h
    · rename_i q a b k; unfold kn123_0_0 at h
      cases h; exact markDa0_tc q a b k
    · cases h
  split at h
  · rename_i e; subst e
    have hh := orO_elim h
    clear h
    rcases hh with h | h
    rotate_left
    · exact k122.callB _ _ _ _ _ _ h
    unfold kn123_1 at h
    split at h
    · rename_i q0 r0; unfold kn123_1_0 at h
      have hb0 := Option.bind_eq_some_iff.1 h
      clear h
      obtain ⟨d, e0, h⟩ := hb0
      unfold kn123_1_1 at h
      have hb1 := Option.bind_eq_some_iff.1 h
      clear h
      obtain ⟨rs, e1, h⟩ := hb1
      unfold kn123_1_2 at h
      split at h
      · rename_i hc; cases h; rw [unDk_ok e0, unRecs_ok e1]; exact dwI0_tc d rs hc
      · cases h
    · cases h
  split at h
  · rename_i e; subst e
    have hh := orO_elim h
    clear h
    rcases hh with h | h
    rotate_left
    · exact k122.callB _ _ _ _ _ _ h
    unfold kn123_2 at h
    split at h
    · rename_i q0 r0; unfold kn123_2_0 at h
      have hb0 := Option.bind_eq_some_iff.1 h
      clear h
      obtain ⟨d, e0, h⟩ := hb0
      unfold kn123_2_1 at h
      have hb1 := Option.bind_eq_some_iff.1 h
      clear h
      obtain ⟨rs, e1, h⟩ := hb1
      unfold kn123_2_2 at h
      split at h
      · rename_i hc; cases h; rw [unDk_ok e0, unRecs_ok e1]; exact dwS0_tc d rs hc
      · cases h
    · cases h
  · exact k122.callB f args o res o1 n1 h
theorem k123 : KnOk Tryd.prog kn123 := ⟨k122.call, eqTysOk, kn123_ok⟩
theorem dwD_len (d : Dk) (rs : List Rec) (h : d.data.length ≤ 1048576) : (dwD d rs).length ≤ 4000000 := by
  have := recO_len rs
  unfold dwD
  split
  · split
    · omega
    · rw [List.length_append]; omega
  · omega
theorem szRs_len2 {l : List Rec} {left : Int} (hl : l.length ≤ maxLen) (h0 : left ≤ 1048576) (h1 : 0 ≤ left) (h : ¬ szRsF l left < 0) : l.length ≤ 1048576 := by
  unfold maxLen at hl
  unfold szRsF at h
  split at h
  · omega
  · rename_i h2
    rw [IntKind.wrap_i64] at h2
    omega
theorem lft_len {n : Nat} (hl : n ≤ maxLen) (h : ¬ lft 1048576 n < 0) : n ≤ 1048576 ∧ lft 1048576 n ≤ 1048576 := by
  unfold maxLen at hl
  unfold lft at h ⊢
  rw [IntKind.wrap_i64] at h ⊢
  split at h
  · omega
  · rename_i h2
    rw [if_neg h2]
    omega
set_option maxHeartbeats 64000000 in
theorem lawDw_tc (d : Dk) (rs : List Rec) (hm : d.data.length ≤ maxLen) (hrm : rs.length ≤ maxLen) : TC Tryd.prog 7 [.agg d.cv, ro 11 (rs.map Rec.tr)] [] 1 (bool true) [] 1 := by
  have hx : ∀ x : Int, (x != x) = false := fun x => by simp
  obtain ⟨c, s, l⟩ := d
  simp only at hm
  simp only [Dk.cv]
  refine tc_intro Tryd.func7 rfl 92 rfl (Nat.le_of_ble_eq_true rfl) (by decide) [4] rfl (by intro id x h; cases h) ?_
  intro w0 E0
  have kOk := k123
  by_cases hz : lft 1048576 l.length < 0
  · have hp := (show (l.length ≤ maxLen) = True ∧ (lft 1048576 l.length < 0) = True ∧ ((-1 : Int) < 0) = True from ⟨eq_true hm, eq_true hz, by simp⟩)
    repeat' (fail_if_success (with_reducible apply amR_id)); first
      | (refine guardP_mk (fun h => ?_) (fun h => ?_) <;> (refine go1 ?_; try simp only [decide_eq_true_eq, decide_eq_false_iff_not, Bool.not_true, Bool.not_false, Bool.not_eq_true', Bool.not_eq_false', beq_iff_eq, bne_iff_ne, beq_eq_false_iff_ne, bne_eq_false_iff_eq, ne_eq, Bool.false_eq_true, reduceCtorEq] at h))
      | (refine hK _ ?_; clear hK K Q1)
      | (refine ⟨by first | omega | (simp only [List.length_map, List.length_append, List.length_cons, List.length_nil, List.length_replicate, List.length_drop, List.length_take]; omega), by unfold maxLen; first | omega | (simp only [List.length_map, List.length_append, List.length_cons, List.length_nil, List.length_replicate, List.length_drop, List.length_take]; omega), ?_⟩)
      | (refine hK _ _ rfl ?_; clear hK K; try refine go1 ?_)
      | (refine am_retP rfl ?_ rfl; first | refine go ?_ | rfl)
      | (refine am_retC [] rfl ?_ rfl rfl; first | refine go ?_ | rfl)
      | (refine wkq ?_)
      | (refine am_rs tabOk kOk rfl fun K Q1 hK => ?_; refine go1 ?_)
      | (refine am_reg tabOk kOk rfl fun K Q1 hK => ?_; refine go1 ?_)
      | (refine am_ds mixed tabOk kOk rfl rfl fun K hK => ?_; refine go1 ?_)
      | (refine am_dreg mixed tabOk kOk rfl rfl fun K hK => ?_; refine go1 ?_)
    all_goals rfl
  obtain ⟨hl1, hl2⟩ := lft_len hm hz
  by_cases hy : szRsF rs (lft 1048576 l.length) < 0
  · have hp := (show (l.length ≤ maxLen) = True ∧ (rs.length ≤ maxLen) = True ∧ (lft 1048576 l.length < 0) = False ∧ (szRsF rs (lft 1048576 l.length) < 0) = True ∧ ((-1 : Int) < 0) = True from ⟨eq_true hm, eq_true hrm, eq_false hz, eq_true hy, by simp⟩)
    repeat' (fail_if_success (with_reducible apply amR_id)); first
      | (refine guardP_mk (fun h => ?_) (fun h => ?_) <;> (refine go1 ?_; try simp only [decide_eq_true_eq, decide_eq_false_iff_not, Bool.not_true, Bool.not_false, Bool.not_eq_true', Bool.not_eq_false', beq_iff_eq, bne_iff_ne, beq_eq_false_iff_ne, bne_eq_false_iff_eq, ne_eq, Bool.false_eq_true, reduceCtorEq] at h))
      | (refine hK _ ?_; clear hK K Q1)
      | (refine ⟨by first | omega | (simp only [List.length_map, List.length_append, List.length_cons, List.length_nil, List.length_replicate, List.length_drop, List.length_take]; omega), by unfold maxLen; first | omega | (simp only [List.length_map, List.length_append, List.length_cons, List.length_nil, List.length_replicate, List.length_drop, List.length_take]; omega), ?_⟩)
      | (refine hK _ _ rfl ?_; clear hK K; try refine go1 ?_)
      | (refine am_retP rfl ?_ rfl; first | refine go ?_ | rfl)
      | (refine am_retC [] rfl ?_ rfl rfl; first | refine go ?_ | rfl)
      | (refine wkq ?_)
      | (refine am_rs tabOk kOk rfl fun K Q1 hK => ?_; refine go1 ?_)
      | (refine am_reg tabOk kOk rfl fun K Q1 hK => ?_; refine go1 ?_)
      | (refine am_ds mixed tabOk kOk rfl rfl fun K hK => ?_; refine go1 ?_)
      | (refine am_dreg mixed tabOk kOk rfl rfl fun K hK => ?_; refine go1 ?_)
    all_goals rfl
  have hrl := szRs_len2 hrm hl2 (by omega) hy
  cases h : dkF ⟨c, s, l⟩ with
  | true =>
    have hL := dwD_len ⟨c, s, l⟩ rs hl1
    generalize hW : dwD ⟨c, s, l⟩ rs = W at hL
    generalize hC : dwC ⟨c, s, l⟩ rs = q
    have hp := (show dkF ⟨c, s, l⟩ = true ∧ dwD ⟨c, s, l⟩ rs = W ∧ dwC ⟨c, s, l⟩ rs = q ∧ (l.length ≤ maxLen) = True ∧ (rs.length ≤ maxLen) = True ∧ (lft 1048576 l.length < 0) = False ∧ (szRsF rs (lft 1048576 l.length) < 0) = False ∧ (l.length ≤ 1048576) = True ∧ (l.length ≤ 1073741824) = True ∧ (rs.length ≤ 1048576) = True ∧ (1 + (l.length : Int) ≤ 1099511627776) = True ∧ (0 ≤ 1 + (l.length : Int)) = True ∧ (1 + (l.length : Int) + 11 * (rs.length : Int) ≤ 1099511627776) = True ∧ (1 + (l.length : Int) + 11 * (rs.length : Int) < 0) = False ∧ (∀ x : Int, (x != x) = false) ∧ (W.length ≤ 1073741824) = True ∧ (mkBs W.length 1).length = W.length ∧ (1 + (W.length : Int) ≤ 1099511627776) = True ∧ ((0:Int) ≤ 1) = True ∧ (1 + (W.length : Int) < 0) = False ∧ ((-1 : Int) < 0) = True from
      ⟨h, hW, hC, eq_true hm, eq_true hrm, eq_false hz, eq_false hy, eq_true hl1, eq_true (by omega), eq_true hrl, eq_true (by omega), eq_true (by omega), eq_true (by omega), eq_false (by omega), hx, eq_true (by omega), mkBs_len _ _, eq_true (by omega), by simp, eq_false (by omega), by simp⟩)
    repeat' (fail_if_success (with_reducible apply amR_id)); first
      | (refine guardP_mk (fun h => ?_) (fun h => ?_) <;> (refine go1 ?_; try simp only [decide_eq_true_eq, decide_eq_false_iff_not, Bool.not_true, Bool.not_false, Bool.not_eq_true', Bool.not_eq_false', beq_iff_eq, bne_iff_ne, beq_eq_false_iff_ne, bne_eq_false_iff_eq, ne_eq, Bool.false_eq_true, reduceCtorEq] at h))
      | (refine hK _ ?_; clear hK K Q1)
      | (refine ⟨by first | omega | (simp only [List.length_map, List.length_append, List.length_cons, List.length_nil, List.length_replicate, List.length_drop, List.length_take]; omega), by unfold maxLen; first | omega | (simp only [List.length_map, List.length_append, List.length_cons, List.length_nil, List.length_replicate, List.length_drop, List.length_take]; omega), ?_⟩)
      | (refine hK _ _ rfl ?_; clear hK K; try refine go1 ?_)
      | (refine am_retP rfl ?_ rfl; first | refine go ?_ | rfl)
      | (refine am_retC [] rfl ?_ rfl rfl; first | refine go ?_ | rfl)
      | (refine wkq ?_)
      | (refine am_rs tabOk kOk rfl fun K Q1 hK => ?_; refine go1 ?_)
      | (refine am_reg tabOk kOk rfl fun K Q1 hK => ?_; refine go1 ?_)
      | (refine am_ds mixed tabOk kOk rfl rfl fun K hK => ?_; refine go1 ?_)
      | (refine am_dreg mixed tabOk kOk rfl rfl fun K hK => ?_; refine go1 ?_)
    all_goals rfl
  | false =>
    have hp := (show dkF ⟨c, s, l⟩ = false ∧ (l.length ≤ maxLen) = True ∧ (rs.length ≤ maxLen) = True ∧ (lft 1048576 l.length < 0) = False ∧ (szRsF rs (lft 1048576 l.length) < 0) = False ∧ (l.length ≤ 1048576) = True ∧ (l.length ≤ 1073741824) = True ∧ (rs.length ≤ 1048576) = True ∧ (1 + (l.length : Int) ≤ 1099511627776) = True ∧ (0 ≤ 1 + (l.length : Int)) = True ∧ (1 + (l.length : Int) + 11 * (rs.length : Int) ≤ 1099511627776) = True ∧ (1 + (l.length : Int) + 11 * (rs.length : Int) < 0) = False ∧ (∀ x : Int, (x != x) = false) ∧ ((0:Int) ≤ 1) = True ∧ ((1 : Int) < 0) = False ∧ ((-1 : Int) < 0) = True from
      ⟨h, eq_true hm, eq_true hrm, eq_false hz, eq_false hy, eq_true hl1, eq_true (by omega), eq_true hrl, eq_true (by omega), eq_true (by omega), eq_true (by omega), eq_false (by omega), hx, by simp, by simp, by simp⟩)
    repeat' (fail_if_success (with_reducible apply amR_id)); first
      | (refine guardP_mk (fun h => ?_) (fun h => ?_) <;> (refine go1 ?_; try simp only [decide_eq_true_eq, decide_eq_false_iff_not, Bool.not_true, Bool.not_false, Bool.not_eq_true', Bool.not_eq_false', beq_iff_eq, bne_iff_ne, beq_eq_false_iff_ne, bne_eq_false_iff_eq, ne_eq, Bool.false_eq_true, reduceCtorEq] at h))
      | (refine hK _ ?_; clear hK K Q1)
      | (refine ⟨by first | omega | (simp only [List.length_map, List.length_append, List.length_cons, List.length_nil, List.length_replicate, List.length_drop, List.length_take]; omega), by unfold maxLen; first | omega | (simp only [List.length_map, List.length_append, List.length_cons, List.length_nil, List.length_replicate, List.length_drop, List.length_take]; omega), ?_⟩)
      | (refine hK _ _ rfl ?_; clear hK K; try refine go1 ?_)
      | (refine am_retP rfl ?_ rfl; first | refine go ?_ | rfl)
      | (refine am_retC [] rfl ?_ rfl rfl; first | refine go ?_ | rfl)
      | (refine wkq ?_)
      | (refine am_rs tabOk kOk rfl fun K Q1 hK => ?_; refine go1 ?_)
      | (refine am_reg tabOk kOk rfl fun K Q1 hK => ?_; refine go1 ?_)
      | (refine am_ds mixed tabOk kOk rfl rfl fun K hK => ?_; refine go1 ?_)
      | (refine am_dreg mixed tabOk kOk rfl rfl fun K hK => ?_; refine go1 ?_)
    all_goals rfl
theorem opT_bytes {P : Program} {t e : TypeId} (ht : P.underlying t = some (.slice e)) (he : P.underlying e = some (.int .u8)) (hc : P.cellsOf e = 1) : OpT P (fun xs => ∃ cs : List Int, xs = [.sl 1 (cs.map bTr)] ∧ cs.length ≤ maxLen) t := by
  refine opT_rows (tr := bTr) (sz := 1) ht hc (by decide) (opT_weak (opT_int he) ?_)
  rintro xs ⟨n, rfl, hw⟩
  exact ⟨n, rfl⟩
theorem op_Dk : OpT Tryd.prog (fun xs => ∃ d : Dk, xs.map CV.t = d.cv ∧ d.data.length ≤ maxLen) 60 := by
  refine opT_weak (opT_struct Tryd.underlying60 (by kernel_rfl) (opT_cons (s := 1) rfl (by kernel_rfl) (opT_int Tryd.underlying3) (opT_cons (s := 1) rfl (by kernel_rfl) (opT_int Tryd.underlying3) (opT_cons (s := 1) rfl (by kernel_rfl) (opT_bytes Tryd.underlying25 Tryd.underlying5 (by kernel_rfl)) opT_nil)))) ?_
  rintro xs ⟨_, _, rfl, ⟨a, rfl, _⟩, _, _, rfl, ⟨b, rfl, _⟩, _, _, rfl, ⟨c, rfl, hc⟩, rfl⟩
  exact ⟨⟨a, b, c⟩, rfl, hc⟩
end Go.Proofs.YtaolgdpkcbfocaaDoorA
