/- Draws: numbers below a bound, long words. -/
import Derived.Test.YtgalnkilcajgcaaFDraw
namespace Go.Proofs.YtgalnkilcajgcaaA
open Go.Proofs
set_option autoImplicit false
set_option linter.unusedVariables false
set_option linter.unusedSimpArgs false
set_option maxRecDepth 4000
def kd1_0_1 (a : Int) (bs : List Int) : CB := if okA a then some (int (nxF bs a), [(1, .cells [.t (.sl 1 (bs.map bTr)), ci (a + 1)])], 2) else none
def kd1_0_0 (a : Int) (r0 : List (List Tree)) : CB := (unBys r0).bind (kd1_0_1 a)
def kd1_0 : List TV → List (Nat × AObj) → CB
  | [.c (.ptr 1 0)], [(1, .cells [.t (.sl 1 r0), .t (.v (.int .i64 a))])] => kd1_0_0 a r0
  | _, _ => none
def kd1_call (f : FuncId) (args : List TV) (o : List (Nat × AObj)) : CB := if f = 135 then orO (kd1_0 args o) (knC.callB f args o) else knC.callB f args o
def kd1 : Kn := { call := knC.call, eqs := eqTys, callB := kd1_call }
attribute [go_sem] kd1_0_0 kd1_0_1 kd1_0 kd1_call kd1
theorem kd1_ok : ∀ f args o res o1 n1, kd1_call f args o = some (res, o1, n1) → TC Try.prog f args o (o.length + 1) res o1 n1 := by
  intro f args o res o1 n1 h
  unfold kd1_call at h
  split at h
  · rename_i e; subst e
    have hh := orO_elim h
    clear h
    rcases hh with h | h
    rotate_left
    · exact kC.callB _ _ _ _ _ _ h
    unfold kd1_0 at h
    split at h
    · rename_i r0 a; unfold kd1_0_0 at h
      have hb0 := Option.bind_eq_some_iff.1 h
      clear h
      obtain ⟨bs, e0, h⟩ := hb0
      unfold kd1_0_1 at h
      split at h
      · rename_i hc; cases h; rw [unBys_ok e0]; exact nx_tc bs a hc
      · cases h
    · cases h
  · exact kC.callB f args o res o1 n1 h
theorem kD1 : KnOk Try.prog kd1 := ⟨kC.call, eqTysOk, kd1_ok⟩
def pkF (bs : List Int) (a n : Int) : Int := Int.tmod (nxF bs a) n
set_option maxHeartbeats 8000000 in
theorem pk_tc (bs : List Int) (a n : Int) (ha : okA a) (h1 : 1 ≤ n) (h2 : n ≤ 256) : TC Try.prog 86 [.c (.ptr 1 0), int n] [(1, .cells [.t (.sl 1 (bs.map bTr)), ci a])] 2 (int (pkF bs a n)) [(1, .cells [.t (.sl 1 (bs.map bTr)), ci (a + 1)])] 2 := by
  refine tc_intro Try.func86 rfl 29 rfl (Nat.le_of_ble_eq_true rfl) (by decide) [4] rfl dom1 ?_
  intro w0 E0
  have kOk := kD1
  have hp := (show okA a = True ∧ (n > 256) = False ∧ (n > 65536) = False ∧ (n = 0) = False from ⟨eq_true ha, eq_false (by omega), eq_false (by omega), eq_false (by omega)⟩)
  repeat' (fail_if_success (with_reducible apply amR_id)); first
    | (refine guardP_mk (fun h => ?_) (fun h => ?_) <;> (refine go1 ?_; try simp only [decide_eq_true_eq, decide_eq_false_iff_not, Bool.not_true, Bool.not_false, Bool.not_eq_true', Bool.not_eq_false', beq_iff_eq, bne_iff_ne, beq_eq_false_iff_ne, bne_eq_false_iff_eq, ne_eq, Bool.false_eq_true, reduceCtorEq] at h))
    | (refine hK _ ?_; clear hK K Q1)
    | (refine hK _ _ rfl ?_; clear hK K; try refine go1 ?_)
    | (refine am_retC [(1, 1)] rfl ?_ rfl rfl; first | refine go ?_ | rfl)
    | (refine am_retB [(1, 1)] rfl ?_ ?_ rfl <;> first | refine go ?_ | rfl)
    | (refine wkq ?_)
    | (refine am_rs tabOk kOk rfl fun K Q1 hK => ?_; refine go1 ?_)
    | (refine am_ds mixed tabOk kOk rfl rfl fun K hK => ?_; refine go1 ?_)
    | (refine am_dreg mixed tabOk kOk rfl rfl fun K hK => ?_; refine go1 ?_)
  all_goals rfl
theorem min_tc (a b : Int) : TC Try.prog 189 [int a, int b] [] 1 (int (if a < b then a else b)) [] 1 := by
  refine tc_intro Try.func189 rfl 10 rfl (Nat.le_of_ble_eq_true rfl) (by decide) [4] rfl (by intro id x h; cases h) ?_
  intro w0 E0
  have kOk := kD1
  repeat' (fail_if_success (with_reducible apply amR_id)); first
    | (refine guardP_mk (fun h => ?_) (fun h => ?_) <;> (refine go ?_; try simp only [decide_eq_true_eq, decide_eq_false_iff_not, Bool.not_true, Bool.not_false, Bool.not_eq_true', Bool.not_eq_false', beq_iff_eq, bne_iff_ne, beq_eq_false_iff_ne, bne_eq_false_iff_eq, ne_eq, Bool.false_eq_true, reduceCtorEq] at h))
    | (refine hK _ ?_; clear hK K Q1)
    | (refine hK _ _ rfl ?_; clear hK K; try refine go ?_)
    | (refine am_retP rfl ?_ rfl; first | refine go ?_ | rfl)
    | (refine am_retC [] rfl ?_ rfl rfl; first | refine go ?_ | rfl)
    | (refine wkp ?_)
    | (refine am_rs tabOk kOk rfl fun K Q1 hK => ?_; refine go ?_)
    | (refine am_ds mixed tabOk kOk rfl rfl fun K hK => ?_; refine go ?_)
    | (refine am_dreg mixed tabOk kOk rfl rfl fun K hK => ?_; refine go ?_)
  all_goals (simp (disch := omega) only [if_pos, if_neg])
theorem max_tc (a b : Int) : TC Try.prog 90 [int a, int b] [] 1 (int (if a > b then a else b)) [] 1 := by
  refine tc_intro Try.func90 rfl 10 rfl (Nat.le_of_ble_eq_true rfl) (by decide) [4] rfl (by intro id x h; cases h) ?_
  intro w0 E0
  have kOk := kD1
  repeat' (fail_if_success (with_reducible apply amR_id)); first
    | (refine guardP_mk (fun h => ?_) (fun h => ?_) <;> (refine go ?_; try simp only [decide_eq_true_eq, decide_eq_false_iff_not, Bool.not_true, Bool.not_false, Bool.not_eq_true', Bool.not_eq_false', beq_iff_eq, bne_iff_ne, beq_eq_false_iff_ne, bne_eq_false_iff_eq, ne_eq, Bool.false_eq_true, reduceCtorEq] at h))
    | (refine hK _ ?_; clear hK K Q1)
    | (refine hK _ _ rfl ?_; clear hK K; try refine go ?_)
    | (refine am_retP rfl ?_ rfl; first | refine go ?_ | rfl)
    | (refine am_retC [] rfl ?_ rfl rfl; first | refine go ?_ | rfl)
    | (refine wkp ?_)
    | (refine am_rs tabOk kOk rfl fun K Q1 hK => ?_; refine go ?_)
    | (refine am_ds mixed tabOk kOk rfl rfl fun K hK => ?_; refine go ?_)
    | (refine am_dreg mixed tabOk kOk rfl rfl fun K hK => ?_; refine go ?_)
  all_goals (simp (disch := omega) only [if_pos, if_neg])
def kd2_0_0 (a : Int) (b : Int) : Option TV := some (int (if a < b then a else b))
def kd2_0 : List TV → Option TV
  | [.c (.t (.v (.int .i64 a))), .c (.t (.v (.int .i64 b)))] => kd2_0_0 a b
  | _ => none
def kd2_1_0 (a : Int) (b : Int) : Option TV := some (int (if a > b then a else b))
def kd2_1 : List TV → Option TV
  | [.c (.t (.v (.int .i64 a))), .c (.t (.v (.int .i64 b)))] => kd2_1_0 a b
  | _ => none
def kd2_call (f : FuncId) (args : List TV) : Option TV := if f = 189 then orO (kd2_0 args) (kd1.call f args) else if f = 90 then orO (kd2_1 args) (kd1.call f args) else kd1.call f args
def kd2 : Kn := { call := kd2_call, eqs := eqTys, callB := kd1.callB }
attribute [go_sem] kd2_0_0 kd2_0 kd2_1_0 kd2_1 kd2_call kd2
theorem kd2_ok : ∀ f args res, kd2_call f args = some res → TC Try.prog f args [] 1 res [] 1 := by
  intro f args res h
  unfold kd2_call at h
  split at h
  · rename_i e; subst e
    have hh := orO_elim h
    clear h
    rcases hh with h | h
    rotate_left
    · exact kD1.call _ _ _ h
    unfold kd2_0 at h
    split at h
    · rename_i a b; unfold kd2_0_0 at h
      cases h; exact min_tc a b
    · cases h
  split at h
  · rename_i e; subst e
    have hh := orO_elim h
    clear h
    rcases hh with h | h
    rotate_left
    · exact kD1.call _ _ _ h
    unfold kd2_1 at h
    split at h
    · rename_i a b; unfold kd2_1_0 at h
      cases h; exact max_tc a b
    · cases h
  · exact kD1.call f args res h
theorem kD2 : KnOk Try.prog kd2 := ⟨kd2_ok, eqTysOk, kD1.callB⟩
theorem size_tc (bs : List Int) : TC Try.prog 87 [ro 1 (bs.map bTr)] [] 1 (int (if (bs.length : Int) < 400 then (bs.length : Int) else 400)) [] 1 := by
  refine tc_intro Try.func87 rfl 6 rfl (Nat.le_of_ble_eq_true rfl) (by decide) [2] rfl (by intro id x h; cases h) ?_
  intro w0 E0
  have kOk := kD2
  have hp : (bs.map bTr).length = bs.length := by simp
  repeat' (fail_if_success (with_reducible apply amR_id)); first
    | (refine guardP_mk (fun h => ?_) (fun h => ?_) <;> (refine go1 ?_; try simp only [decide_eq_true_eq, decide_eq_false_iff_not, Bool.not_true, Bool.not_false, Bool.not_eq_true', Bool.not_eq_false', beq_iff_eq, bne_iff_ne, beq_eq_false_iff_ne, bne_eq_false_iff_eq, ne_eq, Bool.false_eq_true, reduceCtorEq] at h))
    | (refine hK _ ?_; clear hK K Q1)
    | (refine hK _ _ rfl ?_; clear hK K; try refine go1 ?_)
    | (refine am_retP rfl ?_ rfl; first | refine go ?_ | rfl)
    | (refine am_retC [] rfl ?_ rfl rfl; first | refine go ?_ | rfl)
    | (refine wkq ?_)
    | (refine am_rs tabOk kOk rfl fun K Q1 hK => ?_; refine go1 ?_)
    | (refine am_ds mixed tabOk kOk rfl rfl fun K hK => ?_; refine go1 ?_)
    | (refine am_dreg mixed tabOk kOk rfl rfl fun K hK => ?_; refine go1 ?_)
  all_goals rfl
attribute [go_sem] Option.isSome_some
@[go_sem] theorem le_self' (n : Nat) : (n ≤ n) = True := by simp
/-- n times the same byte. -/
def longF (n c : Int) : ByteArray := strOfNums (List.replicate n.toNat c)
theorem byteRows_map (l : List Int) : byteRows (l.map bTr) = some l := by
  induction l with
  | nil => rfl
  | cons e l ih => simp only [List.map_cons, byteRows, bTr, ih]
set_option maxHeartbeats 8000000 in
theorem long_tc (n c : Int) (h0 : 0 ≤ n) (h1 : n ≤ 1000) : TC Try.prog 136 [int n, .c (.t (.v (.int .u8 c)))] [] 1 (str (longF n c)) [] 1 := by
  refine tc_intro Try.func136 rfl 19 rfl (Nat.le_of_ble_eq_true rfl) (by decide) [4] rfl (by intro id x h; cases h) ?_
  intro w0 E0
  have kOk := kD2
  refine wk ?_
  refine am_tidy [(1, 1)] [0, 1, 5, 6] 2 rfl ?_
  refine go ?_
  refine am_loop (n.toNat + 1) ?_
  suffices key : ∀ (d k : Nat), k + d = n.toNat → amR Try.prog _ _ _ (d + 1) ⟨[(0, int n), (1, .c (.t (.v (.int .u8 c)))), (5, .c (.own 1 0 k)), (6, int (k : Nat))], [(1, .arr 5 1 ((List.replicate k c).map bTr))], 2⟩ from key n.toNat 0 (by simp)
  intro d
  induction d with
  | zero =>
    intro k hk
    have hk' : k = n.toNat := hk
    subst hk'
    have hp := (show byteRows ((List.replicate n.toNat c).map bTr) = some (List.replicate n.toNat c) ∧ (n.toNat ≤ ((List.replicate n.toNat c).map bTr).length) = True ∧ ((List.replicate n.toNat c).map bTr).take n.toNat = (List.replicate n.toNat c).map bTr from ⟨byteRows_map _, eq_true (by simp), List.take_of_length_le (by simp)⟩)
    refine amR_succ ?_
    refine wk1 ?_
    refine guardP_mk (fun h => ?_) (fun h => ?_)
    · simp at h; omega
    · refine go1 ?_
      refine wk1 ?_
      refine am_retP rfl ?_ rfl
      first | refine go ?_ | rfl
      rfl
  | succ d ih =>
    intro k hk
    have hp := (show ((List.replicate k c).map bTr).length = k ∧ (k ≤ k) = True ∧ ((List.replicate k c).map bTr).take k = (List.replicate k c).map bTr ∧ (List.replicate k c).map bTr ++ [bTr c] = (List.replicate (k + 1) c).map bTr ∧ IntKind.i64.wrap ((k : Int) + 1) = ((k + 1 : Nat) : Int) from
      ⟨by simp, by simp, List.take_of_length_le (by simp), by rw [List.replicate_succ', List.map_append]; rfl, by rw [wrapN (by omega) (by omega)]; rfl⟩)
    rw [show bTr c = [Tree.v (.int .u8 c)] from rfl] at hp
    refine amR_succ ?_
    refine wk1 ?_
    refine guardP_mk (fun h => ?_) (fun h => ?_)
    · refine go1 ?_
      refine wk1 ?_
      refine am_reg tabOk kOk rfl fun K Q1 hK => ?_
      refine go1 ?_
      refine ⟨by omega, by unfold maxLen; omega, ?_⟩
      refine hK _ ?_
      clear hK K Q1
      refine go1 ?_
      refine wk1 ?_
      refine amR_tidy [(3, 1)] [0, 1, 5, 6] 2 rfl ?_
      refine go1 ?_
      exact ih (k + 1) (by omega)
    · simp at h; omega
end Go.Proofs.YtgalnkilcajgcaaA
