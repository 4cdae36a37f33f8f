/- Draws, for the door seat: numbers, long words. -/
import Derived.Test.YtaolgdpkcbfocaaDoorGDkL2
import Derived.Test.YtaolgdpkcbfocaaDoorGOrd
namespace Go.Proofs.YtaolgdpkcbfocaaDoorA
open Go.Proofs
set_option autoImplicit false
set_option linter.unusedVariables false
set_option linter.unusedSimpArgs false
set_option maxRecDepth 4000
/-- The number behind place a. -/
def nxF (bs : List Int) (a : Int) : Int :=
  if a < bs.length then IntKind.i64.wrap (bs.getD a.toNat 0)
  else Int.tmod (IntKind.i64.wrap (IntKind.i64.wrap (IntKind.i64.wrap (a * 167) + IntKind.i64.wrap (IntKind.i64.wrap (Int.tdiv a 3) * 41)) + IntKind.i64.wrap ((bs.length : Int) * 29))) 256
/-- A place that is not too far. -/
def okA (a : Int) : Prop := 0 ≤ a ∧ a ≤ 1099511627776
instance (a : Int) : Decidable (okA a) := inferInstanceAs (Decidable (_ ∧ _))
set_option maxHeartbeats 8000000 in
theorem nx_tc (bs : List Int) (a : Int) (ha : okA a) : TC Tryd.prog 101 [.c (.ptr 1 0)] [(1, .cells [.t (.sl 1 (bs.map bTr)), ci a])] 2 (int (nxF bs a)) [(1, .cells [.t (.sl 1 (bs.map bTr)), ci (a + 1)])] 2 := by
  obtain ⟨h0, h1⟩ := ha
  have hw : IntKind.i64.wrap (a + 1) = a + 1 := wrapN (by omega) (by omega)
  by_cases h : a < bs.length
  · have hn : nxF bs a = IntKind.i64.wrap (bs.getD a.toNat 0) := if_pos h
    rw [hn]
    obtain ⟨e, he⟩ : ∃ e, bs[a.toNat]? = some e := ⟨bs[a.toNat]'(by omega), List.getElem?_eq_getElem (by omega)⟩
    have hg : bs.getD a.toNat 0 = e := by simp [List.getD, he]
    rw [hg]
    refine tc_intro Tryd.func101 rfl 53 rfl (Nat.le_of_ble_eq_true rfl) (by decide) [2] rfl dom1 ?_
    intro w0 E0
    have kOk := k123
    have hp := (show (bs.map bTr).length = bs.length ∧ (bs.map bTr)[a.toNat]? = some (bTr e) ∧ (a < (bs.length : Int)) = True ∧ (0 ≤ a) = True ∧ IntKind.i64.wrap (a + 1) = a + 1 from ⟨by simp, by rw [List.getElem?_map, he]; rfl, eq_true h, eq_true h0, hw⟩)
    simp only [bTr] at hp
    repeat' (fail_if_success (with_reducible apply amR_id)); first
      | (refine guardP_mk (fun h => ?_) (fun h => ?_) <;> (refine go1 ?_; try simp only [decide_eq_true_eq, decide_eq_false_iff_not, Bool.not_true, Bool.not_false, Bool.not_eq_true', Bool.not_eq_false', beq_iff_eq, bne_iff_ne, beq_eq_false_iff_ne, bne_eq_false_iff_eq, ne_eq, Bool.false_eq_true, reduceCtorEq] at h))
      | (refine hK _ ?_; clear hK K Q1)
      | (refine ⟨by first | omega | (simp only [List.length_map, List.length_append, List.length_cons, List.length_nil, List.length_replicate, List.length_drop, List.length_take]; omega), by unfold maxLen; first | omega | (simp only [List.length_map, List.length_append, List.length_cons, List.length_nil, List.length_replicate, List.length_drop, List.length_take]; omega), ?_⟩)
      | (refine hK _ _ rfl ?_; clear hK K; try refine go1 ?_)
      | (refine am_retC [(1, 1)] rfl ?_ rfl rfl; first | refine go ?_ | rfl)
      | (refine am_retB [(1, 1)] rfl ?_ ?_ rfl <;> first | refine go ?_ | rfl)
      | (refine wkq ?_)
      | (refine am_rs tabOk kOk rfl fun K Q1 hK => ?_; refine go1 ?_)
      | (refine am_reg tabOk kOk rfl fun K Q1 hK => ?_; refine go1 ?_)
      | (refine am_ds mixed tabOk kOk rfl rfl fun K hK => ?_; refine go1 ?_)
      | (refine am_dreg mixed tabOk kOk rfl rfl fun K hK => ?_; refine go1 ?_)
    all_goals rfl
  · have hn : nxF bs a = _ := if_neg h
    rw [hn]
    refine tc_intro Tryd.func101 rfl 53 rfl (Nat.le_of_ble_eq_true rfl) (by decide) [2] rfl dom1 ?_
    intro w0 E0
    have kOk := k123
    have hp := (show (bs.map bTr).length = bs.length ∧ (a < (bs.length : Int)) = False ∧ IntKind.i64.wrap (a + 1) = a + 1 ∧ ((3 : Int) = 0) = False ∧ ((256 : Int) = 0) = False from ⟨by simp, eq_false h, hw, by simp, by simp⟩)
    repeat' (fail_if_success (with_reducible apply amR_id)); first
      | (refine guardP_mk (fun h => ?_) (fun h => ?_) <;> (refine go1 ?_; try simp only [decide_eq_true_eq, decide_eq_false_iff_not, Bool.not_true, Bool.not_false, Bool.not_eq_true', Bool.not_eq_false', beq_iff_eq, bne_iff_ne, beq_eq_false_iff_ne, bne_eq_false_iff_eq, ne_eq, Bool.false_eq_true, reduceCtorEq] at h))
      | (refine hK _ ?_; clear hK K Q1)
      | (refine ⟨by first | omega | (simp only [List.length_map, List.length_append, List.length_cons, List.length_nil, List.length_replicate, List.length_drop, List.length_take]; omega), by unfold maxLen; first | omega | (simp only [List.length_map, List.length_append, List.length_cons, List.length_nil, List.length_replicate, List.length_drop, List.length_take]; omega), ?_⟩)
      | (refine hK _ _ rfl ?_; clear hK K; try refine go1 ?_)
      | (refine am_retC [(1, 1)] rfl ?_ rfl rfl; first | refine go ?_ | rfl)
      | (refine am_retB [(1, 1)] rfl ?_ ?_ rfl <;> first | refine go ?_ | rfl)
      | (refine wkq ?_)
      | (refine am_rs tabOk kOk rfl fun K Q1 hK => ?_; refine go1 ?_)
      | (refine am_reg tabOk kOk rfl fun K Q1 hK => ?_; refine go1 ?_)
      | (refine am_ds mixed tabOk kOk rfl rfl fun K hK => ?_; refine go1 ?_)
      | (refine am_dreg mixed tabOk kOk rfl rfl fun K hK => ?_; refine go1 ?_)
    all_goals rfl
def kd1_0_1 (a : Int) (bs : List Int) : CB := if okA a then some (int (nxF bs a), [(1, .cells [.t (.sl 1 (bs.map bTr)), ci (a + 1)])], 2) else none
def kd1_0_0 (a : Int) (r0 : List (List Tree)) : CB := (unBys r0).bind (kd1_0_1 a)
def kd1_0 : List TV → List (Nat × AObj) → CB
  | [.c (.ptr 1 0)], [(1, .cells [.t (.sl 1 r0), .t (.v (.int .i64 a))])] => kd1_0_0 a r0
  | _, _ => none
def kd1_call (f : FuncId) (args : List TV) (o : List (Nat × AObj)) : CB := if f = 101 then orO (kd1_0 args o) (kn123.callB f args o) else kn123.callB f args o
def kd1 : Kn := { call := kn123.call, eqs := eqTys, callB := kd1_call }
attribute [go_sem] kd1_0_0 kd1_0_1 kd1_0 kd1_call kd1
theorem kd1_ok : ∀ f args o res o1 n1, kd1_call f args o = some (res, o1, n1) → TC Tryd.prog f args o (o.length + 1) res o1 n1 := by
  intro f args o res o1 n1 h
  unfold kd1_call at h
  split at h
  · rename_i e; subst e
    have hh := orO_elim h
    clear h
    rcases hh with h | h
    rotate_left
    · exact k123.callB _ _ _ _ _ _ h
    unfold kd1_0 at h
    split at h
    · rename_i r0 a; unfold kd1_0_0 at h
      have hb0 := Option.bind_eq_some_iff.1 h
      clear h
      obtain ⟨bs, e0, h⟩ := hb0
      unfold kd1_0_1 at h
      split at h
      · rename_i hc; cases h; rw [unBys_ok e0]; exact nx_tc bs a hc
      · cases h
    · cases h
  · exact k123.callB f args o res o1 n1 h
theorem kD1 : KnOk Tryd.prog kd1 := ⟨k123.call, eqTysOk, kd1_ok⟩
def pkF (bs : List Int) (a n : Int) : Int := Int.tmod (nxF bs a) n
set_option maxHeartbeats 8000000 in
theorem pk_tc (bs : List Int) (a n : Int) (ha : okA a) (h1 : 1 ≤ n) (h2 : n ≤ 256) : TC Tryd.prog 78 [.c (.ptr 1 0), int n] [(1, .cells [.t (.sl 1 (bs.map bTr)), ci a])] 2 (int (pkF bs a n)) [(1, .cells [.t (.sl 1 (bs.map bTr)), ci (a + 1)])] 2 := by
  refine tc_intro Tryd.func78 rfl 29 rfl (Nat.le_of_ble_eq_true rfl) (by decide) [4] rfl dom1 ?_
  intro w0 E0
  have kOk := kD1
  have hp := (show okA a = True ∧ (n > 256) = False ∧ (n > 65536) = False ∧ (n = 0) = False from ⟨eq_true ha, eq_false (by omega), eq_false (by omega), eq_false (by omega)⟩)
  repeat' (fail_if_success (with_reducible apply amR_id)); first
    | (refine guardP_mk (fun h => ?_) (fun h => ?_) <;> (refine go1 ?_; try simp only [decide_eq_true_eq, decide_eq_false_iff_not, Bool.not_true, Bool.not_false, Bool.not_eq_true', Bool.not_eq_false', beq_iff_eq, bne_iff_ne, beq_eq_false_iff_ne, bne_eq_false_iff_eq, ne_eq, Bool.false_eq_true, reduceCtorEq] at h))
    | (refine hK _ ?_; clear hK K Q1)
    | (refine ⟨by first | omega | (simp only [List.length_map, List.length_append, List.length_cons, List.length_nil, List.length_replicate, List.length_drop, List.length_take]; omega), by unfold maxLen; first | omega | (simp only [List.length_map, List.length_append, List.length_cons, List.length_nil, List.length_replicate, List.length_drop, List.length_take]; omega), ?_⟩)
    | (refine hK _ _ rfl ?_; clear hK K; try refine go1 ?_)
    | (refine am_retC [(1, 1)] rfl ?_ rfl rfl; first | refine go ?_ | rfl)
    | (refine am_retB [(1, 1)] rfl ?_ ?_ rfl <;> first | refine go ?_ | rfl)
    | (refine wkq ?_)
    | (refine am_rs tabOk kOk rfl fun K Q1 hK => ?_; refine go1 ?_)
    | (refine am_reg tabOk kOk rfl fun K Q1 hK => ?_; refine go1 ?_)
    | (refine am_ds mixed tabOk kOk rfl rfl fun K hK => ?_; refine go1 ?_)
    | (refine am_dreg mixed tabOk kOk rfl rfl fun K hK => ?_; refine go1 ?_)
  all_goals rfl
theorem min_tc (a b : Int) : TC Tryd.prog 97 [int a, int b] [] 1 (int (if a < b then a else b)) [] 1 := by
  refine tc_intro Tryd.func97 rfl 10 rfl (Nat.le_of_ble_eq_true rfl) (by decide) [4] rfl (by intro id x h; cases h) ?_
  intro w0 E0
  have kOk := kD1
  repeat' (fail_if_success (with_reducible apply amR_id)); first
    | (refine guardP_mk (fun h => ?_) (fun h => ?_) <;> (refine go ?_; try simp only [decide_eq_true_eq, decide_eq_false_iff_not, Bool.not_true, Bool.not_false, Bool.not_eq_true', Bool.not_eq_false', beq_iff_eq, bne_iff_ne, beq_eq_false_iff_ne, bne_eq_false_iff_eq, ne_eq, Bool.false_eq_true, reduceCtorEq] at h))
    | (refine hK _ ?_; clear hK K Q1)
    | (refine ⟨by first | omega | (simp only [List.length_map, List.length_append, List.length_cons, List.length_nil, List.length_replicate, List.length_drop, List.length_take]; omega), by unfold maxLen; first | omega | (simp only [List.length_map, List.length_append, List.length_cons, List.length_nil, List.length_replicate, List.length_drop, List.length_take]; omega), ?_⟩)
    | (refine hK _ _ rfl ?_; clear hK K; try refine go ?_)
    | (refine am_retP rfl ?_ rfl; first | refine go ?_ | rfl)
    | (refine am_retC [] rfl ?_ rfl rfl; first | refine go ?_ | rfl)
    | (refine wkp ?_)
    | (refine am_rs tabOk kOk rfl fun K Q1 hK => ?_; refine go ?_)
    | (refine am_reg tabOk kOk rfl fun K Q1 hK => ?_; refine go ?_)
    | (refine am_ds mixed tabOk kOk rfl rfl fun K hK => ?_; refine go ?_)
    | (refine am_dreg mixed tabOk kOk rfl rfl fun K hK => ?_; refine go ?_)
  all_goals (simp (disch := omega) only [if_pos, if_neg])
def kd2_0_0 (a : Int) (b : Int) : Option TV := some (int (if a < b then a else b))
def kd2_0 : List TV → Option TV
  | [.c (.t (.v (.int .i64 a))), .c (.t (.v (.int .i64 b)))] => kd2_0_0 a b
  | _ => none
def kd2_call (f : FuncId) (args : List TV) : Option TV := if f = 97 then orO (kd2_0 args) (kd1.call f args) else kd1.call f args
def kd2 : Kn := { call := kd2_call, eqs := eqTys, callB := kd1.callB }
attribute [go_sem] kd2_0_0 kd2_0 kd2_call kd2
theorem kd2_ok : ∀ f args res, kd2_call f args = some res → TC Tryd.prog f args [] 1 res [] 1 := by
  intro f args res h
  unfold kd2_call at h
  split at h
  · rename_i e; subst e
    have hh := orO_elim h
    clear h
    rcases hh with h | h
    rotate_left
    · exact kD1.call _ _ _ h
    unfold kd2_0 at h
    split at h
    · rename_i a b; unfold kd2_0_0 at h
      cases h; exact min_tc a b
    · cases h
  · exact kD1.call f args res h
theorem kD2 : KnOk Tryd.prog kd2 := ⟨kd2_ok, eqTysOk, kD1.callB⟩
theorem size_tc (bs : List Int) : TC Tryd.prog 76 [ro 1 (bs.map bTr)] [] 1 (int (if (bs.length : Int) < 400 then (bs.length : Int) else 400)) [] 1 := by
  refine tc_intro Tryd.func76 rfl 6 rfl (Nat.le_of_ble_eq_true rfl) (by decide) [2] rfl (by intro id x h; cases h) ?_
  intro w0 E0
  have kOk := kD2
  have hp : (bs.map bTr).length = bs.length := by simp
  repeat' (fail_if_success (with_reducible apply amR_id)); first
    | (refine guardP_mk (fun h => ?_) (fun h => ?_) <;> (refine go1 ?_; try simp only [decide_eq_true_eq, decide_eq_false_iff_not, Bool.not_true, Bool.not_false, Bool.not_eq_true', Bool.not_eq_false', beq_iff_eq, bne_iff_ne, beq_eq_false_iff_ne, bne_eq_false_iff_eq, ne_eq, Bool.false_eq_true, reduceCtorEq] at h))
    | (refine hK _ ?_; clear hK K Q1)
    | (refine ⟨by first | omega | (simp only [List.length_map, List.length_append, List.length_cons, List.length_nil, List.length_replicate, List.length_drop, List.length_take]; omega), by unfold maxLen; first | omega | (simp only [List.length_map, List.length_append, List.length_cons, List.length_nil, List.length_replicate, List.length_drop, List.length_take]; omega), ?_⟩)
    | (refine hK _ _ rfl ?_; clear hK K; try refine go1 ?_)
    | (refine am_retP rfl ?_ rfl; first | refine go ?_ | rfl)
    | (refine am_retC [] rfl ?_ rfl rfl; first | refine go ?_ | rfl)
    | (refine wkq ?_)
    | (refine am_rs tabOk kOk rfl fun K Q1 hK => ?_; refine go1 ?_)
    | (refine am_reg tabOk kOk rfl fun K Q1 hK => ?_; refine go1 ?_)
    | (refine am_ds mixed tabOk kOk rfl rfl fun K hK => ?_; refine go1 ?_)
    | (refine am_dreg mixed tabOk kOk rfl rfl fun K hK => ?_; refine go1 ?_)
  all_goals rfl
@[go_sem] theorem le_self' (n : Nat) : (n ≤ n) = True := by simp
/-- n times the same byte. -/
def longF (n c : Int) : ByteArray := strOfNums (List.replicate n.toNat c)
theorem byteRows_map (l : List Int) : byteRows (l.map bTr) = some l := by
  induction l with
  | nil => rfl
  | cons e l ih => simp only [List.map_cons, byteRows, bTr, ih]
set_option maxHeartbeats 8000000 in
theorem long_tc (n c : Int) (h0 : 0 ≤ n) (h1 : n ≤ 1000) : TC Tryd.prog 113 [int n, .c (.t (.v (.int .u8 c)))] [] 1 (str (longF n c)) [] 1 := by
  refine tc_intro Tryd.func113 rfl 19 rfl (Nat.le_of_ble_eq_true rfl) (by decide) [4] rfl (by intro id x h; cases h) ?_
  intro w0 E0
  have kOk := kD2
  refine wk ?_
  refine am_tidy [(1, 1)] [0, 1, 5, 6] 2 rfl ?_
  refine go ?_
  refine am_loop (n.toNat + 1) ?_
  suffices key : ∀ (d k : Nat), k + d = n.toNat → amR Tryd.prog _ _ _ (d + 1) ⟨[(0, int n), (1, .c (.t (.v (.int .u8 c)))), (5, .c (.own 1 0 k)), (6, int (k : Nat))], [(1, .arr 5 1 ((List.replicate k c).map bTr))], 2⟩ from key n.toNat 0 (by simp)
  intro d
  induction d with
  | zero =>
    intro k hk
    have hk' : k = n.toNat := hk
    subst hk'
    have hp := (show byteRows ((List.replicate n.toNat c).map bTr) = some (List.replicate n.toNat c) ∧ (List.replicate n.toNat c).length = n.toNat ∧ (n.toNat ≤ ((List.replicate n.toNat c).map bTr).length) = True ∧ ((List.replicate n.toNat c).map bTr).take n.toNat = (List.replicate n.toNat c).map bTr from ⟨byteRows_map _, by simp, eq_true (by simp), List.take_of_length_le (by simp)⟩)
    refine amR_succ ?_
    refine wk1 ?_
    refine guardP_mk (fun h => ?_) (fun h => ?_)
    · simp at h; omega
    · refine go1 ?_
      refine wk1 ?_
      refine am_retP rfl ?_ rfl
      first | refine go ?_ | rfl
      rfl
  | succ d ih =>
    intro k hk
    have hp := (show ((List.replicate k c).map bTr).length = k ∧ (List.replicate k c).length = k ∧ (k ≤ k) = True ∧ ((List.replicate k c).map bTr).take k = (List.replicate k c).map bTr ∧ (List.replicate k c).map bTr ++ [bTr c] = (List.replicate (k + 1) c).map bTr ∧ IntKind.i64.wrap ((k : Int) + 1) = ((k + 1 : Nat) : Int) from
      ⟨by simp, by simp, by simp, List.take_of_length_le (by simp), by rw [List.replicate_succ', List.map_append]; rfl, by rw [wrapN (by omega) (by omega)]; rfl⟩)
    rw [show bTr c = [Tree.v (.int .u8 c)] from rfl] at hp
    refine amR_succ ?_
    refine wk1 ?_
    refine guardP_mk (fun h => ?_) (fun h => ?_)
    · refine go1 ?_
      refine wk1 ?_
      refine am_reg tabOk kOk rfl fun K Q1 hK => ?_
      refine go1 ?_
      refine ⟨by omega, by unfold maxLen; omega, ?_⟩
      refine hK _ ?_
      clear hK K Q1
      refine go1 ?_
      refine wk1 ?_
      refine amR_tidy [(3, 1)] [0, 1, 5, 6] 2 rfl ?_
      refine go1 ?_
      exact ih (k + 1) (by omega)
    · simp at h; omega
end Go.Proofs.YtaolgdpkcbfocaaDoorA
/- Draws, for the door seat: words, commands. -/
namespace Go.Proofs.YtaolgdpkcbfocaaDoorA
open Go.Proofs
set_option autoImplicit false
set_option linter.unusedVariables false
set_option linter.unusedSimpArgs false
set_option maxRecDepth 4000
def kd3_0_1 (l : List Int) : Option TV := some (int (if (l.length : Int) < 400 then (l.length : Int) else 400))
def kd3_0_0 (r0 : List (List Tree)) : Option TV := (unBys r0).bind (kd3_0_1)
def kd3_0 : List TV → Option TV
  | [.c (.t (.sl 1 r0))] => kd3_0_0 r0
  | _ => none
def kd3_1_0 (n : Int) (c : Int) : Option TV := if 0 ≤ n ∧ n ≤ 1000 then some (str (longF n c)) else none
def kd3_1 : List TV → Option TV
  | [.c (.t (.v (.int .i64 n))), .c (.t (.v (.int .u8 c)))] => kd3_1_0 n c
  | _ => none
def kd3_call (f : FuncId) (args : List TV) : Option TV := if f = 76 then orO (kd3_0 args) (kd2.call f args) else if f = 113 then orO (kd3_1 args) (kd2.call f args) else kd2.call f args
def kd3 : Kn := { call := kd3_call, eqs := eqTys, callB := kd2.callB }
attribute [go_sem] kd3_0_0 kd3_0_1 kd3_0 kd3_1_0 kd3_1 kd3_call kd3
theorem kd3_ok : ∀ f args res, kd3_call f args = some res → TC Tryd.prog f args [] 1 res [] 1 := by
  intro f args res h
  unfold kd3_call at h
  split at h
  · rename_i e; subst e
    have hh := orO_elim h
    clear h
    rcases hh with h | h
    rotate_left
    · exact kD2.call _ _ _ h
    unfold kd3_0 at h
    split at h
    · rename_i r0; unfold kd3_0_0 at h
      obtain ⟨l, e0, h⟩ := Option.bind_eq_some_iff.1 h
      unfold kd3_0_1 at h
      cases h; rw [unBys_ok e0]; exact size_tc l
    · cases h
  split at h
  · rename_i e; subst e
    have hh := orO_elim h
    clear h
    rcases hh with h | h
    rotate_left
    · exact kD2.call _ _ _ h
    unfold kd3_1 at h
    split at h
    · rename_i n c; unfold kd3_1_0 at h
      split at h
      · rename_i hc; cases h; exact long_tc n c hc.1 hc.2
      · cases h
    · cases h
  · exact kD2.call f args res h
theorem kD3 : KnOk Tryd.prog kd3 := ⟨kd3_ok, eqTysOk, kD2.callB⟩
def kd4_0_1 (n : Int) (a : Int) (bs : List Int) : CB := if okA a ∧ 1 ≤ n ∧ n ≤ 256 then some (int (pkF bs a n), [(1, .cells [.t (.sl 1 (bs.map bTr)), ci (a + 1)])], 2) else none
def kd4_0_0 (n : Int) (a : Int) (r0 : List (List Tree)) : CB := (unBys r0).bind (kd4_0_1 n a)
def kd4_0 : List TV → List (Nat × AObj) → CB
  | [.c (.ptr 1 0), .c (.t (.v (.int .i64 n)))], [(1, .cells [.t (.sl 1 r0), .t (.v (.int .i64 a))])] => kd4_0_0 n a r0
  | _, _ => none
def kd4_call (f : FuncId) (args : List TV) (o : List (Nat × AObj)) : CB := if f = 78 then orO (kd4_0 args o) (kd3.callB f args o) else kd3.callB f args o
def kd4 : Kn := { call := kd3.call, eqs := eqTys, callB := kd4_call }
attribute [go_sem] kd4_0_0 kd4_0_1 kd4_0 kd4_call kd4
theorem kd4_ok : ∀ f args o res o1 n1, kd4_call f args o = some (res, o1, n1) → TC Tryd.prog f args o (o.length + 1) res o1 n1 := by
  intro f args o res o1 n1 h
  unfold kd4_call at h
  split at h
  · rename_i e; subst e
    have hh := orO_elim h
    clear h
    rcases hh with h | h
    rotate_left
    · exact kD3.callB _ _ _ _ _ _ h
    unfold kd4_0 at h
    split at h
    · rename_i n r0 a; unfold kd4_0_0 at h
      have hb0 := Option.bind_eq_some_iff.1 h
      clear h
      obtain ⟨bs, e0, h⟩ := hb0
      unfold kd4_0_1 at h
      split at h
      · rename_i hc; cases h; rw [unBys_ok e0]; exact pk_tc bs a n hc.1 hc.2.1 hc.2.2
      · cases h
    · cases h
  · exact kD3.callB f args o res o1 n1 h
theorem kD4 : KnOk Tryd.prog kd4 := ⟨kD3.call, eqTysOk, kd4_ok⟩
def okS (bs : List Int) : Prop := (∀ n, n ∈ bs → 0 ≤ n ∧ n ≤ 255) ∧ bs.length ≤ 1048576
theorem nx_rng {bs : List Int} {a : Int} (hb : okS bs) (ha : okA a) : 0 ≤ nxF bs a ∧ nxF bs a ≤ 255 := by
  obtain ⟨h1, h2⟩ := hb
  obtain ⟨h3, h4⟩ := ha
  unfold nxF
  split
  · rename_i h
    have hlt : a.toNat < bs.length := by omega
    have hg : bs.getD a.toNat 0 = bs[a.toNat] := by simp [List.getD, List.getElem?_eq_getElem hlt]
    have := h1 _ (List.getElem_mem hlt)
    rw [hg, wrapN (by omega) (by omega)]
    exact this
  · have ht : Int.tdiv a 3 = a / 3 := Int.tdiv_eq_ediv_of_nonneg h3
    rw [ht]
    have w1 : IntKind.i64.wrap (a * 167) = a * 167 := wrapN (by omega) (by omega)
    have w2 : IntKind.i64.wrap (a / 3) = a / 3 := wrapN (by omega) (by omega)
    rw [w1, w2]
    have w3 : IntKind.i64.wrap (a / 3 * 41) = a / 3 * 41 := wrapN (by omega) (by omega)
    rw [w3]
    have w4 : IntKind.i64.wrap (a * 167 + a / 3 * 41) = a * 167 + a / 3 * 41 := wrapN (by omega) (by omega)
    have w5 : IntKind.i64.wrap ((bs.length : Int) * 29) = (bs.length : Int) * 29 := wrapN (by omega) (by omega)
    rw [w4, w5]
    have w6 : IntKind.i64.wrap (a * 167 + a / 3 * 41 + (bs.length : Int) * 29) = a * 167 + a / 3 * 41 + (bs.length : Int) * 29 := wrapN (by omega) (by omega)
    rw [w6, Int.tmod_eq_emod_of_nonneg (by omega)]
    omega
theorem pk_rng {bs : List Int} {a n : Int} (hb : okS bs) (ha : okA a) (hn : 1 ≤ n) : 0 ≤ pkF bs a n ∧ pkF bs a n < n := by
  have h := nx_rng hb ha
  unfold pkF
  rw [Int.tmod_eq_emod_of_nonneg h.1]
  exact ⟨Int.emod_nonneg _ (by omega), Int.emod_lt_of_pos _ (by omega)⟩
def bWr (n : Int) : Int := IntKind.u8.wrap (IntKind.i64.wrap n)
def wordF (bs : List Int) (a : Int) (e : Bool) : ByteArray :=
  if pkF bs a 16 = 0 ∧ e = true then ⟨#[]⟩
  else if pkF bs a 16 = 1 then longF (IntKind.i64.wrap (64 - pkF bs (a + 1) 2)) (IntKind.u8.wrap (IntKind.i64.wrap (97 + pkF bs (a + 1 + 1) 3)))
  else if pkF bs a 16 = 2 then strOfNums [IntKind.u8.wrap (nxF bs (a + 1)), IntKind.u8.wrap (nxF bs (a + 1 + 1))]
  else if pkF bs a 16 < 11 then strOfNums [IntKind.u8.wrap (IntKind.i64.wrap (97 + pkF bs (a + 1) 4))]
  else strOfNums [IntKind.u8.wrap (IntKind.i64.wrap (97 + pkF bs (a + 1) 3)), IntKind.u8.wrap (IntKind.i64.wrap (48 + pkF bs (a + 1 + 1) 10))]
def wordN (bs : List Int) (a : Int) (e : Bool) : Int :=
  if pkF bs a 16 = 0 ∧ e = true then a + 1 else if pkF bs a 16 = 1 then a + 1 + 1 + 1 else if pkF bs a 16 = 2 then a + 1 + 1 + 1 else if pkF bs a 16 < 11 then a + 1 + 1 else a + 1 + 1 + 1
theorem wordN_le (bs : List Int) (a : Int) (e : Bool) : a + 1 ≤ wordN bs a e ∧ wordN bs a e ≤ a + 3 := by
  unfold wordN
  (repeat' split) <;> omega
set_option maxHeartbeats 16000000 in
theorem word_tc (bs : List Int) (a : Int) (e : Bool) (hb : okS bs) (h0 : 0 ≤ a) (h1 : a ≤ 1099511627000) : TC Tryd.prog 112 [.c (.ptr 1 0), bool e] [(1, .cells [.t (.sl 1 (bs.map bTr)), ci a])] 2 (str (wordF bs a e)) [(1, .cells [.t (.sl 1 (bs.map bTr)), ci (wordN bs a e)])] 2 := by
  have ha : okA a := ⟨h0, by omega⟩
  have ha1 : okA (a + 1) := ⟨by omega, by omega⟩
  have ha2 : okA (a + 1 + 1) := ⟨by omega, by omega⟩
  have r1 := pk_rng (n := 2) hb ha1 (by omega)
  have hw : IntKind.i64.wrap (64 - pkF bs (a + 1) 2) = 64 - pkF bs (a + 1) 2 := wrapN (by omega) (by omega)
  refine tc_intro Tryd.func112 rfl 51 rfl (Nat.le_of_ble_eq_true rfl) (by decide) [4] rfl dom1 ?_
  intro w0 E0
  have kOk := kD4
  have hp := (show okA a = True ∧ okA (a + 1) = True ∧ okA (a + 1 + 1) = True ∧ (0 ≤ IntKind.i64.wrap (64 - pkF bs (a + 1) 2)) = True ∧ (IntKind.i64.wrap (64 - pkF bs (a + 1) 2) ≤ 1000) = True from ⟨eq_true ha, eq_true ha1, eq_true ha2, eq_true (by omega), eq_true (by omega)⟩)
  cases e
  all_goals
    repeat' (fail_if_success (with_reducible apply amR_id)); first
      | (refine guardP_mk (fun h => ?_) (fun h => ?_) <;> (refine go1 ?_; try simp only [decide_eq_true_eq, decide_eq_false_iff_not, Bool.not_true, Bool.not_false, Bool.not_eq_true', Bool.not_eq_false', beq_iff_eq, bne_iff_ne, beq_eq_false_iff_ne, bne_eq_false_iff_eq, ne_eq, Bool.false_eq_true, reduceCtorEq] at h))
      | (refine hK _ ?_; clear hK K Q1)
      | (refine ⟨by first | omega | (simp only [List.length_map, List.length_append, List.length_cons, List.length_nil, List.length_replicate, List.length_drop, List.length_take]; omega), by unfold maxLen; first | omega | (simp only [List.length_map, List.length_append, List.length_cons, List.length_nil, List.length_replicate, List.length_drop, List.length_take]; omega), ?_⟩)
      | (refine hK _ _ rfl ?_; clear hK K; try refine go1 ?_)
      | (refine am_retC [(1, 1)] rfl ?_ rfl rfl; first | refine go ?_ | rfl)
      | (refine am_retB [(1, 1)] rfl ?_ ?_ rfl <;> first | refine go ?_ | rfl)
      | (refine wkq ?_)
      | (refine am_rs tabOk kOk rfl fun K Q1 hK => ?_; refine go1 ?_)
      | (refine am_reg tabOk kOk rfl fun K Q1 hK => ?_; refine go1 ?_)
      | (refine am_ds mixed tabOk kOk rfl rfl fun K hK => ?_; refine go1 ?_)
      | (refine am_dreg mixed tabOk kOk rfl rfl fun K hK => ?_; refine go1 ?_)
  all_goals first | (exfalso; omega) | (clear hp; simp only [wordF, wordN, Bool.false_eq_true, and_false, and_true, if_false]; simp (disch := omega) only [if_pos, if_neg])
/-- Where a word may be drawn. -/
def okW (bs : List Int) (a : Int) : Prop := okS bs ∧ 0 ≤ a ∧ a ≤ 1099511627000
instance (bs : List Int) : Decidable (okS bs) := inferInstanceAs (Decidable ((∀ n, n ∈ bs → 0 ≤ n ∧ n ≤ 255) ∧ _))
instance (bs : List Int) (a : Int) : Decidable (okW bs a) := inferInstanceAs (Decidable (_ ∧ _ ∧ _))
def kd5_0_1 (e : Bool) (a : Int) (bs : List Int) : CB := if okW bs a then some (str (wordF bs a e), [(1, .cells [.t (.sl 1 (bs.map bTr)), ci (wordN bs a e)])], 2) else none
def kd5_0_0 (e : Bool) (a : Int) (r0 : List (List Tree)) : CB := (unBys r0).bind (kd5_0_1 e a)
def kd5_0 : List TV → List (Nat × AObj) → CB
  | [.c (.ptr 1 0), .c (.t (.v (.bool e)))], [(1, .cells [.t (.sl 1 r0), .t (.v (.int .i64 a))])] => kd5_0_0 e a r0
  | _, _ => none
def kd5_call (f : FuncId) (args : List TV) (o : List (Nat × AObj)) : CB := if f = 112 then orO (kd5_0 args o) (kd4.callB f args o) else kd4.callB f args o
def kd5 : Kn := { call := kd4.call, eqs := eqTys, callB := kd5_call }
attribute [go_sem] kd5_0_0 kd5_0_1 kd5_0 kd5_call kd5
theorem kd5_ok : ∀ f args o res o1 n1, kd5_call f args o = some (res, o1, n1) → TC Tryd.prog f args o (o.length + 1) res o1 n1 := by
  intro f args o res o1 n1 h
  unfold kd5_call at h
  split at h
  · rename_i e; subst e
    have hh := orO_elim h
    clear h
    rcases hh with h | h
    rotate_left
    · exact kD4.callB _ _ _ _ _ _ h
    unfold kd5_0 at h
    split at h
    · rename_i e r0 a; unfold kd5_0_0 at h
      have hb0 := Option.bind_eq_some_iff.1 h
      clear h
      obtain ⟨bs, e0, h⟩ := hb0
      unfold kd5_0_1 at h
      split at h
      · rename_i hc; cases h; rw [unBys_ok e0]; exact word_tc bs a e hc.1 hc.2.1 hc.2.2
      · cases h
    · cases h
  · exact kD4.callB f args o res o1 n1 h
theorem kD5 : KnOk Tryd.prog kd5 := ⟨kD4.call, eqTysOk, kd5_ok⟩
def cmdOp (bs : List Int) (a : Int) : Int := IntKind.i64.wrap (1 + pkF bs (a + 1 + 1) 4)
/-- Behind the key. -/
def cmdA (bs : List Int) (a : Int) : Int := wordN bs (a + 1 + 1 + 1) false
def cmdQ (bs : List Int) (a : Int) : Int := if pkF bs (cmdA bs a) 12 = 0 then cmdA bs a + 1 + 1 else cmdA bs a + 1
def cmdF (bs : List Int) (a : Int) : Cm :=
  ⟨IntKind.i64.wrap (1 + pkF bs a 8), if pkF bs (cmdA bs a) 12 = 0 then IntKind.i64.wrap (1073741824 - pkF bs (cmdA bs a + 1) 2) else IntKind.i64.wrap (1 + pkF bs (a + 1) 6), cmdOp bs a, wordF bs (a + 1 + 1 + 1) false,
    if cmdOp bs a = 2 ∨ cmdOp bs a = 4 then wordF bs (cmdQ bs a) true else ⟨#[]⟩, if cmdOp bs a = 4 then wordF bs (wordN bs (cmdQ bs a) true) true else ⟨#[]⟩⟩
def cmdN (bs : List Int) (a : Int) : Int := if cmdOp bs a = 4 then wordN bs (wordN bs (cmdQ bs a) true) true else if cmdOp bs a = 2 then wordN bs (cmdQ bs a) true else cmdQ bs a
theorem cmdN_le (bs : List Int) (a : Int) : a + 1 ≤ cmdN bs a ∧ cmdN bs a ≤ a + 14 := by
  have h1 := wordN_le bs (a + 1 + 1 + 1) false
  have h2 := wordN_le bs (cmdQ bs a) true
  have h3 := wordN_le bs (wordN bs (cmdQ bs a) true) true
  have h4 : cmdA bs a + 1 ≤ cmdQ bs a ∧ cmdQ bs a ≤ cmdA bs a + 2 := by unfold cmdQ; split <;> omega
  have h5 : cmdA bs a = wordN bs (a + 1 + 1 + 1) false := rfl
  unfold cmdN
  (repeat' split) <;> omega
set_option maxHeartbeats 32000000 in
theorem cmdD_tc (bs : List Int) (a : Int) (hb : okS bs) (h0 : 0 ≤ a) (h1 : a ≤ 1099511620000) : TC Tryd.prog 111 [.c (.ptr 1 0)] [(1, .cells [.t (.sl 1 (bs.map bTr)), ci a])] 2 (.agg (cmdF bs a).cv) [(1, .cells [.t (.sl 1 (bs.map bTr)), ci (cmdN bs a)])] 2 := by
  have w1 := wordN_le bs (a + 1 + 1 + 1) false
  have w2 := wordN_le bs (wordN bs (a + 1 + 1 + 1) false + 1) true
  have w3 := wordN_le bs (wordN bs (a + 1 + 1 + 1) false + 1 + 1) true
  have ok : ∀ x : Int, 0 ≤ x → x ≤ 1099511627000 → okA x = True ∧ okW bs x = True := fun x hx hy => ⟨eq_true ⟨hx, by omega⟩, eq_true ⟨hb, hx, hy⟩⟩
  refine tc_cell tabOk Tryd.func111 rfl 41 rfl (Nat.le_of_ble_eq_true rfl) (by decide) [(2, some 36)] rfl dom1 ?_
  intro w0 E0
  have kOk := kD5
  have hp := (show okA a = True ∧ okA (a + 1) = True ∧ okA (a + 1 + 1) = True ∧ okW bs (a + 1 + 1 + 1) = True ∧ okA (wordN bs (a + 1 + 1 + 1) false) = True ∧ okA (wordN bs (a + 1 + 1 + 1) false + 1) = True ∧ okW bs (wordN bs (a + 1 + 1 + 1) false + 1) = True ∧ okW bs (wordN bs (a + 1 + 1 + 1) false + 1 + 1) = True ∧ okW bs (wordN bs (wordN bs (a + 1 + 1 + 1) false + 1) true) = True ∧ okW bs (wordN bs (wordN bs (a + 1 + 1 + 1) false + 1 + 1) true) = True from
    ⟨(ok _ (by omega) (by omega)).1, (ok _ (by omega) (by omega)).1, (ok _ (by omega) (by omega)).1, (ok _ (by omega) (by omega)).2, (ok _ (by omega) (by omega)).1, (ok _ (by omega) (by omega)).1, (ok _ (by omega) (by omega)).2, (ok _ (by omega) (by omega)).2, (ok _ (by omega) (by omega)).2, (ok _ (by omega) (by omega)).2⟩)
  repeat' (fail_if_success (with_reducible apply amR_id)); first
    | (refine guardP_mk (fun h => ?_) (fun h => ?_) <;> (refine go1 ?_; try simp only [decide_eq_true_eq, decide_eq_false_iff_not, Bool.not_true, Bool.not_false, Bool.not_eq_true', Bool.not_eq_false', beq_iff_eq, bne_iff_ne, beq_eq_false_iff_ne, bne_eq_false_iff_eq, ne_eq, Bool.false_eq_true, reduceCtorEq] at h))
    | (refine hK _ ?_; clear hK K Q1)
    | (refine ⟨by first | omega | (simp only [List.length_map, List.length_append, List.length_cons, List.length_nil, List.length_replicate, List.length_drop, List.length_take]; omega), by unfold maxLen; first | omega | (simp only [List.length_map, List.length_append, List.length_cons, List.length_nil, List.length_replicate, List.length_drop, List.length_take]; omega), ?_⟩)
    | (refine hK _ _ rfl ?_; clear hK K; try refine go1 ?_)
    | (refine am_retC [(1, 1)] rfl ?_ rfl rfl; first | refine go ?_ | rfl)
    | (refine am_retB [(1, 1)] rfl ?_ ?_ rfl <;> first | refine go ?_ | rfl)
    | (refine wkq ?_)
    | (refine am_rs tabOk kOk rfl fun K Q1 hK => ?_; refine go1 ?_)
    | (refine am_reg tabOk kOk rfl fun K Q1 hK => ?_; refine go1 ?_)
    | (refine am_ds mixed tabOk kOk rfl rfl fun K hK => ?_; refine go1 ?_)
    | (refine am_dreg mixed tabOk kOk rfl rfl fun K hK => ?_; refine go1 ?_)
  all_goals first | (exfalso; omega) | (clear hp ok; (try unfold Cm.cv); (try unfold cmdF); (try unfold cmdN); (try unfold cmdQ); (try unfold cmdA); (try unfold cmdOp); simp (disch := first | assumption | omega) only [if_pos, if_neg]; refine am_retC [(1, 1)] rfl ?_ rfl rfl; first | refine go ?_ | rfl)
end Go.Proofs.YtaolgdpkcbfocaaDoorA
/- Draws: numbers below any bound; entries. -/
namespace Go.Proofs.YtaolgdpkcbfocaaDoorA
open Go.Proofs
set_option autoImplicit false
set_option linter.unusedVariables false
set_option linter.unusedSimpArgs false
set_option maxRecDepth 4000
def pkX (bs : List Int) (a n : Int) : Int := if n ≤ 256 then pkF bs a n else if n ≤ 65536 then Int.tmod (nxF bs a * 256 + nxF bs (a + 1)) n else Int.tmod ((nxF bs a * 256 + nxF bs (a + 1)) * 65536 + nxF bs (a + 1 + 1) * 256 + nxF bs (a + 1 + 1 + 1)) n
def pkP (a n : Int) : Int := if n ≤ 256 then a + 1 else if n ≤ 65536 then a + 1 + 1 else a + 1 + 1 + 1 + 1
theorem pkP_le (a n : Int) : a + 1 ≤ pkP a n ∧ pkP a n ≤ a + 4 := by unfold pkP; (repeat' split) <;> omega
theorem pkX_rng {bs : List Int} {a n : Int} (hw : okW bs a) (hn : 1 ≤ n) : 0 ≤ pkX bs a n ∧ pkX bs a n < n := by
  obtain ⟨hb, h0, h1⟩ := hw
  have r0 := nx_rng hb (a := a) ⟨by omega, by omega⟩
  have r1 := nx_rng hb (a := a + 1) ⟨by omega, by omega⟩
  have r2 := nx_rng hb (a := a + 1 + 1) ⟨by omega, by omega⟩
  have r3 := nx_rng hb (a := a + 1 + 1 + 1) ⟨by omega, by omega⟩
  unfold pkX
  split
  · exact pk_rng hb ⟨by omega, by omega⟩ hn
  · split
    · rw [Int.tmod_eq_emod_of_nonneg (by omega)]
      exact ⟨Int.emod_nonneg _ (by omega), Int.emod_lt_of_pos _ (by omega)⟩
    · rw [Int.tmod_eq_emod_of_nonneg (by omega)]
      exact ⟨Int.emod_nonneg _ (by omega), Int.emod_lt_of_pos _ (by omega)⟩
set_option maxHeartbeats 8000000 in
theorem pkX_tc (bs : List Int) (a n : Int) (hw : okW bs a) (h1 : 1 ≤ n) (h2 : n ≤ 1073741824) : TC Tryd.prog 78 [.c (.ptr 1 0), int n] [(1, .cells [.t (.sl 1 (bs.map bTr)), ci a])] 2 (int (pkX bs a n)) [(1, .cells [.t (.sl 1 (bs.map bTr)), ci (pkP a n)])] 2 := by
  obtain ⟨hb, h0, h3⟩ := hw
  by_cases hn : n ≤ 256
  · have e1 : pkX bs a n = pkF bs a n := by simp [pkX, hn]
    have e2 : pkP a n = a + 1 := by simp [pkP, hn]
    rw [e1, e2]
    exact pk_tc bs a n ⟨h0, by omega⟩ h1 hn
  have r0 := nx_rng hb (a := a) ⟨by omega, by omega⟩
  have r1 := nx_rng hb (a := a + 1) ⟨by omega, by omega⟩
  have r2 := nx_rng hb (a := a + 1 + 1) ⟨by omega, by omega⟩
  have r3 := nx_rng hb (a := a + 1 + 1 + 1) ⟨by omega, by omega⟩
  have o0 : okA a = True := eq_true ⟨by omega, by omega⟩
  have o1 : okA (a + 1) = True := eq_true ⟨by omega, by omega⟩
  have o2 : okA (a + 1 + 1) = True := eq_true ⟨by omega, by omega⟩
  have o3 : okA (a + 1 + 1 + 1) = True := eq_true ⟨by omega, by omega⟩
  by_cases hm : n ≤ 65536
  · have e1 : pkX bs a n = Int.tmod (nxF bs a * 256 + nxF bs (a + 1)) n := by simp [pkX, hn, hm]
    have e2 : pkP a n = a + 1 + 1 := by simp [pkP, hn, hm]
    rw [e1, e2]
    refine tc_intro Tryd.func78 rfl 29 rfl (Nat.le_of_ble_eq_true rfl) (by decide) [4] rfl dom1 ?_
    intro w0 E0
    have kOk := kD5
    have hp := (show okA a = True ∧ okA (a + 1) = True ∧ (n > 256) = True ∧ (n > 65536) = False ∧ (n = 0) = False ∧ IntKind.i64.wrap (nxF bs a * 256) = nxF bs a * 256 ∧ IntKind.i64.wrap (nxF bs a * 256 + nxF bs (a + 1)) = nxF bs a * 256 + nxF bs (a + 1) from
      ⟨o0, o1, eq_true (by omega), eq_false (by omega), eq_false (by omega), wrapN (by omega) (by omega), wrapN (by omega) (by omega)⟩)
    refine wk1 ?_
    refine am_retB [(1, 1)] rfl ?_ ?_ rfl <;> first | rfl | (refine go ?_; rfl)
  · have e1 : pkX bs a n = Int.tmod ((nxF bs a * 256 + nxF bs (a + 1)) * 65536 + nxF bs (a + 1 + 1) * 256 + nxF bs (a + 1 + 1 + 1)) n := by simp [pkX, hn, hm]
    have e2 : pkP a n = a + 1 + 1 + 1 + 1 := by simp [pkP, hn, hm]
    rw [e1, e2]
    refine tc_intro Tryd.func78 rfl 29 rfl (Nat.le_of_ble_eq_true rfl) (by decide) [4] rfl dom1 ?_
    intro w0 E0
    have kOk := kD5
    have hp := (show okA a = True ∧ okA (a + 1) = True ∧ okA (a + 1 + 1) = True ∧ okA (a + 1 + 1 + 1) = True ∧ (n > 256) = True ∧ (n > 65536) = True ∧ (n = 0) = False ∧ IntKind.i64.wrap (nxF bs a * 256) = nxF bs a * 256 ∧ IntKind.i64.wrap (nxF bs a * 256 + nxF bs (a + 1)) = nxF bs a * 256 + nxF bs (a + 1) ∧
        IntKind.i64.wrap ((nxF bs a * 256 + nxF bs (a + 1)) * 65536) = (nxF bs a * 256 + nxF bs (a + 1)) * 65536 ∧ IntKind.i64.wrap (nxF bs (a + 1 + 1) * 256) = nxF bs (a + 1 + 1) * 256 ∧ IntKind.i64.wrap ((nxF bs a * 256 + nxF bs (a + 1)) * 65536 + nxF bs (a + 1 + 1) * 256) = (nxF bs a * 256 + nxF bs (a + 1)) * 65536 + nxF bs (a + 1 + 1) * 256 ∧
        IntKind.i64.wrap ((nxF bs a * 256 + nxF bs (a + 1)) * 65536 + nxF bs (a + 1 + 1) * 256 + nxF bs (a + 1 + 1 + 1)) = (nxF bs a * 256 + nxF bs (a + 1)) * 65536 + nxF bs (a + 1 + 1) * 256 + nxF bs (a + 1 + 1 + 1) from
      ⟨o0, o1, o2, o3, eq_true (by omega), eq_true (by omega), eq_false (by omega), wrapN (by omega) (by omega), wrapN (by omega) (by omega), wrapN (by omega) (by omega), wrapN (by omega) (by omega), wrapN (by omega) (by omega), wrapN (by omega) (by omega)⟩)
    refine wk1 ?_
    refine am_retB [(1, 1)] rfl ?_ ?_ rfl <;> first | rfl | (refine go ?_; rfl)
def kd6_0_1 (n : Int) (a : Int) (bs : List Int) : CB := if okW bs a ∧ 1 ≤ n ∧ n ≤ 1073741824 then some (int (pkX bs a n), [(1, .cells [.t (.sl 1 (bs.map bTr)), ci (pkP a n)])], 2) else none
def kd6_0_0 (n : Int) (a : Int) (r0 : List (List Tree)) : CB := (unBys r0).bind (kd6_0_1 n a)
def kd6_0 : List TV → List (Nat × AObj) → CB
  | [.c (.ptr 1 0), .c (.t (.v (.int .i64 n)))], [(1, .cells [.t (.sl 1 r0), .t (.v (.int .i64 a))])] => kd6_0_0 n a r0
  | _, _ => none
def kd6_1_1 (a : Int) (bs : List Int) : CB := if okW bs a ∧ a ≤ 1099511620000 then some (.agg (cmdF bs a).cv, [(1, .cells [.t (.sl 1 (bs.map bTr)), ci (cmdN bs a)])], 2) else none
def kd6_1_0 (a : Int) (r0 : List (List Tree)) : CB := (unBys r0).bind (kd6_1_1 a)
def kd6_1 : List TV → List (Nat × AObj) → CB
  | [.c (.ptr 1 0)], [(1, .cells [.t (.sl 1 r0), .t (.v (.int .i64 a))])] => kd6_1_0 a r0
  | _, _ => none
def kd6_call (f : FuncId) (args : List TV) (o : List (Nat × AObj)) : CB := if f = 78 then orO (kd6_0 args o) (kd5.callB f args o) else if f = 111 then orO (kd6_1 args o) (kd5.callB f args o) else kd5.callB f args o
def kd6 : Kn := { call := kd5.call, eqs := eqTys, callB := kd6_call }
attribute [go_sem] kd6_0_0 kd6_0_1 kd6_0 kd6_1_0 kd6_1_1 kd6_1 kd6_call kd6
theorem kd6_ok : ∀ f args o res o1 n1, kd6_call f args o = some (res, o1, n1) → TC Tryd.prog f args o (o.length + 1) res o1 n1 := by
  intro f args o res o1 n1 h
  unfold kd6_call at h
  split at h
  · rename_i e; subst e
    have hh := orO_elim h
    clear h
    rcases hh with h | h
    rotate_left
    · exact kD5.callB _ _ _ _ _ _ h
    unfold kd6_0 at h
    split at h
    · rename_i n r0 a; unfold kd6_0_0 at h
      have hb0 := Option.bind_eq_some_iff.1 h
      clear h
      obtain ⟨bs, e0, h⟩ := hb0
      unfold kd6_0_1 at h
      split at h
      · rename_i hc; cases h; rw [unBys_ok e0]; exact pkX_tc bs a n hc.1 hc.2.1 hc.2.2
      · cases h
    · cases h
  split at h
  · rename_i e; subst e
    have hh := orO_elim h
    clear h
    rcases hh with h | h
    rotate_left
    · exact kD5.callB _ _ _ _ _ _ h
    unfold kd6_1 at h
    split at h
    · rename_i r0 a; unfold kd6_1_0 at h
      have hb0 := Option.bind_eq_some_iff.1 h
      clear h
      obtain ⟨bs, e0, h⟩ := hb0
      unfold kd6_1_1 at h
      split at h
      · rename_i hc; cases h; rw [unBys_ok e0]; exact cmdD_tc bs a hc.1.1 hc.1.2.1 hc.2
      · cases h
    · cases h
  · exact kD5.callB f args o res o1 n1 h
theorem kD6 : KnOk Tryd.prog kd6 := ⟨kD5.call, eqTysOk, kd6_ok⟩
/-! ### Entries -/
def zeroCm : Cm := ⟨0, 0, 0, ⟨#[]⟩, ⟨#[]⟩, ⟨#[]⟩⟩
def deT (bs : List Int) (a t : Int) : Int := if pkX bs a 5 = 0 ∧ t < 1073741824 then IntKind.i64.wrap (t + 1) else t
def deM (bs : List Int) (a : Int) : Cm := if pkX bs (pkP a 5) 6 = 0 then zeroCm else cmdF bs (pkP (pkP a 5) 6)
def deA (bs : List Int) (a : Int) : Int := if pkX bs (pkP a 5) 6 = 0 then pkP (pkP a 5) 6 else cmdN bs (pkP (pkP a 5) 6)
theorem deA_le (bs : List Int) (a : Int) : a ≤ deA bs a ∧ deA bs a ≤ a + 30 := by
  have h1 := pkP_le a 5
  have h2 := pkP_le (pkP a 5) 6
  have h3 := cmdN_le bs (pkP (pkP a 5) 6)
  unfold deA
  split <;> omega
def deL (bs : List Int) : Nat → Int → Int → List Ent
  | 0, _, _ => []
  | n + 1, a, t => ⟨deT bs a t, deM bs a⟩ :: deL bs n (deA bs a) (deT bs a t)
def deN (bs : List Int) : Nat → Int → Int
  | 0, a => a
  | n + 1, a => deN bs n (deA bs a)
theorem deL_len (bs : List Int) : ∀ (n : Nat) (a t : Int), (deL bs n a t).length = n
  | 0, _, _ => rfl
  | n + 1, a, t => by rw [deL, List.length_cons, deL_len bs n]
theorem deN_le (bs : List Int) : ∀ (n : Nat) (a : Int), a ≤ deN bs n a ∧ deN bs n a ≤ a + 30 * (n : Nat)
  | 0, a => by simp [deN]
  | n + 1, a => by
    have h1 := deA_le bs a
    have h2 := deN_le bs n (deA bs a)
    unfold deN
    omega
set_option maxHeartbeats 16000000 in
theorem de_tc (bs : List Int) (a n t : Int) (hb : okS bs) (h0 : 0 ≤ a) (h1 : a ≤ 1099511000000) (hn : 0 ≤ n) (hn2 : n ≤ 1000) : TC Tryd.prog 107 [.c (.ptr 1 0), int n, int t] [(1, .cells [.t (.sl 1 (bs.map bTr)), ci a])] 2
    (.c (.own 2 0 (deL bs n.toNat a t).length)) [(1, .cells [.t (.sl 1 (bs.map bTr)), ci (deN bs n.toNat a)]), (2, .arr 98 7 ((deL bs n.toNat a t).map Ent.tr))] 3 := by
  refine tc_intro Tryd.func107 rfl 38 rfl (Nat.le_of_ble_eq_true rfl) (by decide) [6] rfl dom1 ?_
  intro w0 E0
  have kOk := kD6
  refine wk ?_
  refine am_tidy [(1, 1), (2, 2)] [0, 1, 2, 7, 8] 3 rfl ?_
  refine go ?_
  refine am_loop (n.toNat + 1) ?_
  have hnn : n = (n.toNat : Int) := by omega
  suffices key : ∀ (d k : Nat) (x u : Int) (X : List Ent), k + d = n.toNat → X ++ deL bs d x u = deL bs n.toNat a t → deN bs d x = deN bs n.toNat a → X.length = k → 0 ≤ x → x ≤ a + 30 * (k : Int) → amR Tryd.prog _ _ _ (d + 1) ⟨[(0, .c (.ptr 1 0)), (1, int n), (2, int u), (7, .c (.own 2 0 X.length)), (8, int (k : Nat))], [(1, .cells [.t (.sl 1 (bs.map bTr)), ci x]), (2, .arr 98 7 (X.map Ent.tr))], 3⟩ from key n.toNat 0 a t [] (by simp) (by simp) rfl rfl h0 (by omega)
  intro d
  induction d with
  | zero =>
    intro k x u X hk hX hN hXl hx0 hx1
    rw [deL, List.append_nil] at hX
    subst hX
    rw [← hN]
    have hp := (show ((k : Int) < n) = False from eq_false (by omega))
    refine amR_succ ?_
    refine wk1 ?_
    refine am_retB [(1, 1), (2, 2)] rfl ?_ ?_ rfl <;> first | rfl | (refine go ?_; rfl)
  | succ d ih =>
    intro k x u X hk hX hN hXl hx0 hx1
    have p1 := pkP_le x 5
    have p2 := pkP_le (pkP x 5) 6
    have p3 := deA_le bs x
    have ihk := ih (k + 1) (deA bs x) (deT bs x u) (X ++ [⟨deT bs x u, deM bs x⟩]) (by omega) (by rw [List.append_assoc]; exact hX) hN (by simp [hXl]) (by omega) (by omega)
    clear ih
    refine amR_succ ?_
    have ok : ∀ q : Int, 0 ≤ q → q ≤ 1099511620000 → okW bs q = True := fun q hq0 hq1 => eq_true ⟨hb, hq0, by omega⟩
    have hp := (show ((k : Int) < n) = True ∧ okW bs x = True ∧ okW bs (pkP x 5) = True ∧ okW bs (pkP (pkP x 5) 6) = True ∧ (pkP (pkP x 5) 6 ≤ 1099511620000) = True ∧ IntKind.i64.wrap ((k : Int) + 1) = ((k + 1 : Nat) : Int) ∧ (X.length + 1 ≤ maxLen) = True ∧ ((X.length + 1) * 80 ≤ 140737488355328) = True from
      ⟨eq_true (by omega), ok _ (by omega) (by omega), ok _ (by omega) (by omega), ok _ (by omega) (by omega), eq_true (by omega), by rw [wrapN (by omega) (by omega)]; rfl, eq_true (by unfold maxLen; omega), eq_true (by omega)⟩)
    by_cases c1 : pkX bs x 5 = 0
    · by_cases c2 : u < 1073741824
      · by_cases c3 : pkX bs (pkP x 5) 6 = 0
        · have eT : deT bs x u = IntKind.i64.wrap (u + 1) := by simp [deT, c1, c2]
          have eM : deM bs x = zeroCm := by simp [deM, c3]
          have eA : deA bs x = pkP (pkP x 5) 6 := by simp [deA, c3]
          rw [eT, eM, eA] at ihk
          have hp := And.intro hp (show (pkX bs x 5 == 0) = true ∧ (pkX bs (pkP x 5) 6 != 0) = false ∧ (u < 1073741824) = True from ⟨by simpa using c1, by simpa using c3, eq_true c2⟩)
          refine wk1 ?_
          refine amR_tidy [(1, 1), (5, 2)] [0, 1, 2, 7, 8] 3 rfl ?_
          refine go1 ?_
          refine amR_st ?_ ihk
          simp [Ent.tr, zeroCm]
        · have eT : deT bs x u = IntKind.i64.wrap (u + 1) := by simp [deT, c1, c2]
          have eM : deM bs x = cmdF bs (pkP (pkP x 5) 6) := by simp [deM, c3]
          have eA : deA bs x = cmdN bs (pkP (pkP x 5) 6) := by simp [deA, c3]
          rw [eT, eM, eA] at ihk
          have hp := And.intro hp (show (pkX bs x 5 == 0) = true ∧ (pkX bs (pkP x 5) 6 != 0) = true ∧ (u < 1073741824) = True from ⟨by simpa using c1, by simpa using c3, eq_true c2⟩)
          refine wk1 ?_
          refine amR_tidy [(1, 1), (5, 2)] [0, 1, 2, 7, 8] 3 rfl ?_
          refine go1 ?_
          refine amR_st ?_ ihk
          simp [Ent.tr, zeroCm]
      · by_cases c3 : pkX bs (pkP x 5) 6 = 0
        · have eT : deT bs x u = u := by simp [deT, c1, c2]
          have eM : deM bs x = zeroCm := by simp [deM, c3]
          have eA : deA bs x = pkP (pkP x 5) 6 := by simp [deA, c3]
          rw [eT, eM, eA] at ihk
          have hp := And.intro hp (show (pkX bs x 5 == 0) = true ∧ (pkX bs (pkP x 5) 6 != 0) = false ∧ (u < 1073741824) = False from ⟨by simpa using c1, by simpa using c3, eq_false c2⟩)
          refine wk1 ?_
          refine amR_tidy [(1, 1), (5, 2)] [0, 1, 2, 7, 8] 3 rfl ?_
          refine go1 ?_
          refine amR_st ?_ ihk
          simp [Ent.tr, zeroCm]
        · have eT : deT bs x u = u := by simp [deT, c1, c2]
          have eM : deM bs x = cmdF bs (pkP (pkP x 5) 6) := by simp [deM, c3]
          have eA : deA bs x = cmdN bs (pkP (pkP x 5) 6) := by simp [deA, c3]
          rw [eT, eM, eA] at ihk
          have hp := And.intro hp (show (pkX bs x 5 == 0) = true ∧ (pkX bs (pkP x 5) 6 != 0) = true ∧ (u < 1073741824) = False from ⟨by simpa using c1, by simpa using c3, eq_false c2⟩)
          refine wk1 ?_
          refine amR_tidy [(1, 1), (5, 2)] [0, 1, 2, 7, 8] 3 rfl ?_
          refine go1 ?_
          refine amR_st ?_ ihk
          simp [Ent.tr, zeroCm]
    · by_cases c3 : pkX bs (pkP x 5) 6 = 0
      · have eT : deT bs x u = u := by simp [deT, c1]
        have eM : deM bs x = zeroCm := by simp [deM, c3]
        have eA : deA bs x = pkP (pkP x 5) 6 := by simp [deA, c3]
        rw [eT, eM, eA] at ihk
        have hp := And.intro hp (show (pkX bs x 5 == 0) = false ∧ (pkX bs (pkP x 5) 6 != 0) = false from ⟨by simpa using c1, by simpa using c3⟩)
        refine wk1 ?_
        refine amR_tidy [(1, 1), (5, 2)] [0, 1, 2, 7, 8] 3 rfl ?_
        refine go1 ?_
        refine amR_st ?_ ihk
        simp [Ent.tr, zeroCm]
      · have eT : deT bs x u = u := by simp [deT, c1]
        have eM : deM bs x = cmdF bs (pkP (pkP x 5) 6) := by simp [deM, c3]
        have eA : deA bs x = cmdN bs (pkP (pkP x 5) 6) := by simp [deA, c3]
        rw [eT, eM, eA] at ihk
        have hp := And.intro hp (show (pkX bs x 5 == 0) = false ∧ (pkX bs (pkP x 5) 6 != 0) = true from ⟨by simpa using c1, by simpa using c3⟩)
        refine wk1 ?_
        refine amR_tidy [(1, 1), (5, 2)] [0, 1, 2, 7, 8] 3 rfl ?_
        refine go1 ?_
        refine amR_st ?_ ihk
        simp [Ent.tr, zeroCm]
end Go.Proofs.YtaolgdpkcbfocaaDoorA
/- The reference's records from one state to another, for the door seat. -/
namespace Go.Proofs.YtaolgdpkcbfocaaDoorA
open Go.Proofs
set_option autoImplicit false
set_option linter.unusedVariables false
set_option linter.unusedSimpArgs false
set_option maxRecDepth 4000
def kd7_0_1 (a : Int) (b : Int) (l : List Ent) : Option TV := if l.length ≤ 1048576 then some (bool (risF l a b)) else none
def kd7_0_0 (a : Int) (b : Int) (r0 : List (List Tree)) : Option TV := (unEnts r0).bind (kd7_0_1 a b)
def kd7_0 : List TV → Option TV
  | [.c (.t (.sl 7 r0)), .c (.t (.v (.int .i64 a))), .c (.t (.v (.int .i64 b)))] => kd7_0_0 a b r0
  | _ => none
def kd7_call (f : FuncId) (args : List TV) : Option TV := if f = 90 then orO (kd7_0 args) (kd6.call f args) else kd6.call f args
def kd7 : Kn := { call := kd7_call, eqs := eqTys, callB := kd6.callB }
attribute [go_sem] kd7_0_0 kd7_0_1 kd7_0 kd7_call kd7
theorem kd7_ok : ∀ f args res, kd7_call f args = some res → TC Tryd.prog f args [] 1 res [] 1 := by
  intro f args res h
  unfold kd7_call at h
  split at h
  · rename_i e; subst e
    have hh := orO_elim h
    clear h
    rcases hh with h | h
    rotate_left
    · exact kD6.call _ _ _ h
    unfold kd7_0 at h
    split at h
    · rename_i r0 a b; unfold kd7_0_0 at h
      obtain ⟨l, e0, h⟩ := Option.bind_eq_some_iff.1 h
      unfold kd7_0_1 at h
      split at h
      · rename_i hc; cases h; rw [unEnts_ok e0]; exact risS_tc l a b hc
      · cases h
    · cases h
  · exact kD6.call f args res h
theorem kD7 : KnOk Tryd.prog kd7 := ⟨kd7_ok, eqTysOk, kD6.callB⟩
structure Stb where
  term : Int
  vote : Int
  log : List Ent
def Stb.cv (c : Stb) : List CV := [ci c.term, ci c.vote, .t (.sl 7 (c.log.map Ent.tr))]
deriving instance DecidableEq for Stb
def unStb : List CV → Option Stb
  | [.t (.v (.int .i64 t)), .t (.v (.int .i64 v)), .t (.sl 7 xs)] => (unEnts xs).map (Stb.mk t v)
  | _ => none
theorem unStb_ok {xs : List CV} {c : Stb} (h : unStb xs = some c) : xs = c.cv := by
  unfold unStb at h
  split at h
  · rename_i t v ys
    cases hy : unEnts ys with
    | none => rw [hy] at h; cases h
    | some l => rw [hy] at h; cases h; rw [unEnts_ok hy]; rfl
  · cases h
attribute [go_sem] unStb Stb.cv
def stF (c : Stb) : Bool := hardF c.term c.vote && decide (c.log.length ≤ 4096) && risF c.log 1 c.term
theorem stS_tc (c : Stb) (hl : c.log.length ≤ 1048576) : TC Tryd.prog 108 [.agg c.cv] [] 1 (bool (stF c)) [] 1 := by
  refine tc_intro Tryd.func108 rfl 34 rfl (Nat.le_of_ble_eq_true rfl) (by decide) [2] rfl (by intro id x h; cases h) ?_
  intro w0 E0
  have kOk := kD7
  obtain ⟨t, v, l⟩ := c
  have hp : ((l.length ≤ 1048576) = True) ∧ (l.map Ent.tr).length = l.length := ⟨eq_true hl, by simp⟩
  simp only [Stb.cv]
  repeat' (fail_if_success (with_reducible apply amR_id)); first
    | (refine guardP_mk (fun h => ?_) (fun h => ?_) <;> (refine go1 ?_; try simp only [decide_eq_true_eq, decide_eq_false_iff_not, Bool.not_true, Bool.not_false, Bool.not_eq_true', Bool.not_eq_false', beq_iff_eq, bne_iff_ne, beq_eq_false_iff_ne, bne_eq_false_iff_eq, ne_eq, Bool.false_eq_true, reduceCtorEq] at h))
    | (refine hK _ ?_; clear hK K Q1)
    | (refine ⟨by first | omega | (simp only [List.length_map, List.length_append, List.length_cons, List.length_nil, List.length_replicate, List.length_drop, List.length_take]; omega), by unfold maxLen; first | omega | (simp only [List.length_map, List.length_append, List.length_cons, List.length_nil, List.length_replicate, List.length_drop, List.length_take]; omega), ?_⟩)
    | (refine hK _ _ rfl ?_; clear hK K; try refine go1 ?_)
    | (refine am_retP rfl ?_ rfl; first | refine go ?_ | rfl)
    | (refine am_retC [] rfl ?_ rfl rfl; first | refine go ?_ | rfl)
    | (refine wkq ?_)
    | (refine am_rs tabOk kOk rfl fun K Q1 hK => ?_; refine go1 ?_)
    | (refine am_reg tabOk kOk rfl fun K Q1 hK => ?_; refine go1 ?_)
    | (refine am_ds mixed tabOk kOk rfl rfl fun K hK => ?_; refine go1 ?_)
    | (refine am_dreg mixed tabOk kOk rfl rfl fun K hK => ?_; refine go1 ?_)
  all_goals (clear hp; simp only [TV.c.injEq, CV.t.injEq, Tree.v.injEq, Value.bool.injEq, stF, hardF, inB] at *; grind)
def kd8_0_1 (c : Stb) : Option TV := if c.log.length ≤ 1048576 then some (bool (stF c)) else none
def kd8_0_0 (r0 : List CV) : Option TV := (unStb r0).bind (kd8_0_1)
def kd8_0 : List TV → Option TV
  | [.agg r0] => kd8_0_0 r0
  | _ => none
def kd8_call (f : FuncId) (args : List TV) : Option TV := if f = 108 then orO (kd8_0 args) (kd7.call f args) else kd7.call f args
def kd8 : Kn := { call := kd8_call, eqs := eqTys, callB := kd7.callB }
attribute [go_sem] kd8_0_0 kd8_0_1 kd8_0 kd8_call kd8
theorem kd8_ok : ∀ f args res, kd8_call f args = some res → TC Tryd.prog f args [] 1 res [] 1 := by
  intro f args res h
  unfold kd8_call at h
  split at h
  · rename_i e; subst e
    have hh := orO_elim h
    clear h
    rcases hh with h | h
    rotate_left
    · exact kD7.call _ _ _ h
    unfold kd8_0 at h
    split at h
    · rename_i r0; unfold kd8_0_0 at h
      obtain ⟨c, e0, h⟩ := Option.bind_eq_some_iff.1 h
      unfold kd8_0_1 at h
      split at h
      · rename_i hc; cases h; rw [unStb_ok e0]; exact stS_tc c hc
      · cases h
    · cases h
  · exact kD7.call f args res h
theorem kD8 : KnOk Tryd.prog kd8 := ⟨kd8_ok, eqTysOk, kD7.callB⟩
/-- How many entries two logs share at their heads. -/
def comF : List Ent → List Ent → Nat
  | a :: l, b :: m => if a = b then comF l m + 1 else 0
  | _, _ => 0
def noEnt : Ent := ⟨0, ⟨0, 0, 0, ⟨#[]⟩, ⟨#[]⟩, ⟨#[]⟩⟩⟩
def addF : List Ent → Nat → List Rec
  | [], _ => []
  | e :: l, k => ⟨2, 0, 0, ((k + 1 : Nat) : Int), e⟩ :: addF l (k + 1)
def hardL (s u : Stb) : List Rec := if s.term = u.term ∧ s.vote = u.vote then [] else [⟨1, u.term, u.vote, 0, noEnt⟩]
def cutL (s : Stb) (k : Nat) : List Rec := if k < s.log.length then [⟨3, 0, 0, ((k : Nat) : Int), noEnt⟩] else []
def headL (s u : Stb) : List Rec := hardL s u ++ cutL s (comF s.log u.log)
def recL (s u : Stb) : List Rec := headL s u ++ addF (u.log.drop (comF s.log u.log)) (comF s.log u.log)
theorem comF_drop {l m : List Ent} {k : Nat} {a b : Ent} (h : l[k]? = some a) (h2 : m[k]? = some b) : comF (l.drop k) (m.drop k) = if a = b then comF (l.drop (k + 1)) (m.drop (k + 1)) + 1 else 0 := by
  have hk := (List.getElem?_eq_some_iff.1 h).1
  have hk2 := (List.getElem?_eq_some_iff.1 h2).1
  rw [List.drop_eq_getElem_cons hk, List.drop_eq_getElem_cons hk2]
  have e1 : l[k] = a := by rw [List.getElem?_eq_getElem hk] at h; exact Option.some.inj h
  have e2 : m[k] = b := by rw [List.getElem?_eq_getElem hk2] at h2; exact Option.some.inj h2
  simp only [comF, e1, e2]
theorem comF_end {l m : List Ent} {k : Nat} (h : l.length ≤ k ∨ m.length ≤ k) : comF (l.drop k) (m.drop k) = 0 := by
  rcases h with h | h
  · rw [List.drop_eq_nil_of_le h]; cases m.drop k <;> rfl
  · rw [List.drop_eq_nil_of_le h]; cases l.drop k <;> rfl
theorem comF_le : ∀ (l m : List Ent), comF l m ≤ l.length ∧ comF l m ≤ m.length
  | [], m => by cases m <;> simp [comF]
  | a :: l, [] => by simp [comF]
  | a :: l, b :: m => by
    have := comF_le l m
    simp only [comF, List.length_cons]
    split <;> omega
theorem addF_len : ∀ (l : List Ent) (k : Nat), (addF l k).length = l.length
  | [], _ => rfl
  | e :: l, k => by rw [addF, List.length_cons, addF_len l, List.length_cons]
theorem addF_snoc : ∀ (l : List Ent) (k : Nat) (e : Ent), addF (l ++ [e]) k = addF l k ++ [⟨2, 0, 0, ((k + l.length + 1 : Nat) : Int), e⟩]
  | [], k, e => by simp [addF]
  | a :: l, k, e => by
    rw [List.cons_append, addF, addF_snoc l, addF, List.cons_append, List.length_cons]
    congr 4
    omega
/-- What is added so far: from place c on up to place i. -/
def addT (l : List Ent) (c i : Nat) : List Rec := addF ((l.take i).drop c) c
theorem addT_zero (l : List Ent) (c : Nat) : addT l c c = [] := by
  unfold addT
  rw [List.drop_eq_nil_of_le (by simp; omega)]
  rfl
theorem addT_all (l : List Ent) (c : Nat) : addT l c l.length = addF (l.drop c) c := by
  unfold addT
  rw [List.take_length]
theorem addT_succ {l : List Ent} {c i : Nat} {e : Ent} (h : l[i]? = some e) (hc : c ≤ i) : addT l c (i + 1) = addT l c i ++ [⟨2, 0, 0, ((i + 1 : Nat) : Int), e⟩] := by
  have hi := (List.getElem?_eq_some_iff.1 h).1
  unfold addT
  rw [List.take_add_one, h, Option.toList_some, List.drop_append_of_le_length (by simp; omega), addF_snoc]
  congr 4
  simp
  omega
theorem addT_len {l : List Ent} {c i : Nat} (hi : i ≤ l.length) : (addT l c i).length = i - c := by
  unfold addT
  rw [addF_len]
  simp
  omega
theorem headL_len (s u : Stb) : (headL s u).length ≤ 2 := by
  unfold headL hardL cutL
  split <;> split <;> simp
theorem recL_len (s u : Stb) : (recL s u).length ≤ 2 + u.log.length := by
  have := headL_len s u
  unfold recL
  rw [List.length_append, addF_len, List.length_drop]
  omega
/-- The new state may follow the old one. -/
def fitB (s u : Stb) : Bool := decide (u.term > s.term ∨ u.term = s.term ∧ (s.vote = 0 ∨ s.vote = u.vote))
/-- Whether there is an answer, and if not, why. -/
def planC (s u : Stb) : Int := if stF s = false then 1 else if stF u = false then 2 else if fitB s u = false then 3 else 0
@[go_sem] theorem one_le_max : (1 ≤ maxLen) = True := by simp [maxLen]
@[go_sem] theorem le_selfP (n : Nat) : (n ≤ n) = True := by simp
theorem bbIff (x y : ByteArray) : (x == y) = true ↔ x = y := by
  rw [beq_toListBytes, ByteArray.toList_eq, ByteArray.toList_eq]
  obtain ⟨⟨a⟩⟩ := x
  obtain ⟨⟨b⟩⟩ := y
  simp
def fitR (s : Stb) (r : Rec) : Bool := decide (r.te > s.term ∨ r.te = s.term ∧ (s.vote = 0 ∨ s.vote = r.vo))
theorem fits_tc (s : Stb) (r : Rec) (h : r.kd = 1) : TC Tryd.prog 109 [.agg s.cv, .agg r.cv] [] 1 (bool (fitR s r)) [] 1 := by
  refine tc_intro Tryd.func109 rfl 67 rfl (Nat.le_of_ble_eq_true rfl) (by decide) [4] rfl (by intro id x h; cases h) ?_
  intro w0 E0
  have kOk := kD8
  obtain ⟨t, v, l⟩ := s
  obtain ⟨kd, te, vo, ix, ⟨k, ⟨a, q, o, x, y, z⟩⟩⟩ := r
  have hp : kd = 1 ∧ (l.map Ent.tr).length = l.length ∧ ((1 : Int) == 1) = true := ⟨h, by simp, by simp⟩
  simp only [Stb.cv, Rec.cv, Cm.cv]
  repeat' (fail_if_success (with_reducible apply amR_id)); first
    | (refine guardP_mk (fun h => ?_) (fun h => ?_) <;> (refine go1 ?_; try simp only [decide_eq_true_eq, decide_eq_false_iff_not, Bool.not_true, Bool.not_false, Bool.not_eq_true', Bool.not_eq_false', beq_iff_eq, bne_iff_ne, beq_eq_false_iff_ne, bne_eq_false_iff_eq, ne_eq, Bool.false_eq_true, reduceCtorEq] at h))
    | (refine hK _ ?_; clear hK K Q1)
    | (refine ⟨by first | omega | (simp only [List.length_map, List.length_append, List.length_cons, List.length_nil, List.length_replicate, List.length_drop, List.length_take]; omega), by unfold maxLen; first | omega | (simp only [List.length_map, List.length_append, List.length_cons, List.length_nil, List.length_replicate, List.length_drop, List.length_take]; omega), ?_⟩)
    | (refine hK _ _ rfl ?_; clear hK K; try refine go1 ?_)
    | (refine am_retP rfl ?_ rfl; first | refine go ?_ | rfl)
    | (refine am_retC [] rfl ?_ rfl rfl; first | refine go ?_ | rfl)
    | (refine wkq ?_)
    | (refine am_rs tabOk kOk rfl fun K Q1 hK => ?_; refine go1 ?_)
    | (refine am_reg tabOk kOk rfl fun K Q1 hK => ?_; refine go1 ?_)
    | (refine am_ds mixed tabOk kOk rfl rfl fun K hK => ?_; refine go1 ?_)
    | (refine am_dreg mixed tabOk kOk rfl rfl fun K hK => ?_; refine go1 ?_)
  all_goals (clear hp; simp only [TV.c.injEq, CV.t.injEq, Tree.v.injEq, Value.bool.injEq]; rw [Bool.eq_iff_iff]; simp only [fitR, decide_eq_true_eq, decide_eq_false_iff_not, beq_iff_eq, Bool.false_eq_true, false_iff, true_iff] at *; omega)
def kd9_0_2 (s : Stb) (r : Rec) : Option TV := if r.kd = 1 then some (bool (fitR s r)) else none
def kd9_0_1 (r1 : List CV) (s : Stb) : Option TV := (unRec r1).bind (kd9_0_2 s)
def kd9_0_0 (r0 : List CV) (r1 : List CV) : Option TV := (unStb r0).bind (kd9_0_1 r1)
def kd9_0 : List TV → Option TV
  | [.agg r0, .agg r1] => kd9_0_0 r0 r1
  | _ => none
def kd9_call (f : FuncId) (args : List TV) : Option TV := if f = 109 then orO (kd9_0 args) (kd8.call f args) else kd8.call f args
def kd9 : Kn := { call := kd9_call, eqs := eqTys, callB := kd8.callB }
attribute [go_sem] kd9_0_0 kd9_0_1 kd9_0_2 kd9_0 kd9_call kd9
theorem kd9_ok : ∀ f args res, kd9_call f args = some res → TC Tryd.prog f args [] 1 res [] 1 := by
  intro f args res h
  unfold kd9_call at h
  split at h
  · rename_i e; subst e
    have hh := orO_elim h
    clear h
    rcases hh with h | h
    rotate_left
    · exact kD8.call _ _ _ h
    unfold kd9_0 at h
    split at h
    · rename_i r0 r1; unfold kd9_0_0 at h
      obtain ⟨s, e0, h⟩ := Option.bind_eq_some_iff.1 h
      unfold kd9_0_1 at h
      obtain ⟨r, e1, h⟩ := Option.bind_eq_some_iff.1 h
      unfold kd9_0_2 at h
      split at h
      · rename_i hc; cases h; rw [unStb_ok e0, unRec_ok e1]; exact fits_tc s r hc
      · cases h
    · cases h
  · exact kD8.call f args res h
theorem kD9 : KnOk Tryd.prog kd9 := ⟨kd9_ok, eqTysOk, kD8.callB⟩
set_option maxHeartbeats 16000000 in
theorem planST_ok (s u : Stb) (hl : s.log.length ≤ 1048576) (hl2 : u.log.length ≤ 1048576) (h1 : stF s = true) (h2 : stF u = true) (h3 : fitB s u = true) : TC Tryd.prog 99 [.agg s.cv, .agg u.cv] [] 1
    (.agg [ci 0, .own 1 0 (recL s u).length]) [(1, .arr 100 11 ((recL s u).map Rec.tr))] 2 := by
  refine tc_cell tabOk Tryd.func99 rfl 102 rfl (Nat.le_of_ble_eq_true rfl) (by decide) [(4, some 158)] rfl (by intro id x h; cases h) ?_
  intro w0 E0
  have kOk := kD9
  have hf : fitR s ⟨1, u.term, u.vote, 0, noEnt⟩ = true := h3
  obtain ⟨t, v, l⟩ := s
  obtain ⟨t', v', l'⟩ := u
  simp only at hl hl2
  simp only [Stb.cv]
  have hm1 : (l.map Ent.tr).length = l.length := by simp
  have hm2 : (l'.map Ent.tr).length = l'.length := by simp
  simp only [noEnt] at hf
  have goal : ∀ H : List Rec, H = hardL ⟨t, v, l⟩ ⟨t', v', l'⟩ → H.length ≤ 1 := fun H e => by rw [e]; unfold hardL; split <;> simp
  by_cases hh : t = t' ∧ v = v'
  case' pos =>
    have hp := And.intro (And.intro hm1 hm2) (show (l.length ≤ 1048576) = True ∧ (l'.length ≤ 1048576) = True ∧ stF ⟨t, v, l⟩ = true ∧ stF ⟨t', v', l'⟩ = true ∧ fitR ⟨t, v, l⟩ ⟨1, t', v', 0, ⟨0, ⟨0, 0, 0, ⟨#[]⟩, ⟨#[]⟩, ⟨#[]⟩⟩⟩⟩ = true ∧ (t != t') = false ∧ (v != v') = false from ⟨eq_true hl, eq_true hl2, h1, h2, hf, by simp [hh.1], by simp [hh.2]⟩)
    refine wk1 ?_
    refine am_tidy [(1, 1), (2, 2), (3, 3), (5, 4)] [2, 3, 4, 6, 7] 5 rfl ?_
    refine go1 ?_
    have hH : hardL ⟨t, v, l⟩ ⟨t', v', l'⟩ = [] := by simp only [hardL, if_pos hh]
  case' neg =>
    by_cases h4 : t = t'
    case' pos =>
      have hp := And.intro (And.intro hm1 hm2) (show (l.length ≤ 1048576) = True ∧ (l'.length ≤ 1048576) = True ∧ stF ⟨t, v, l⟩ = true ∧ stF ⟨t', v', l'⟩ = true ∧ fitR ⟨t, v, l⟩ ⟨1, t', v', 0, ⟨0, ⟨0, 0, 0, ⟨#[]⟩, ⟨#[]⟩, ⟨#[]⟩⟩⟩⟩ = true ∧ (t != t') = false ∧ (v != v') = true from ⟨eq_true hl, eq_true hl2, h1, h2, hf, by simp [h4], by simp; exact fun e => hh ⟨h4, e⟩⟩)
    case' neg =>
      have hp := And.intro (And.intro hm1 hm2) (show (l.length ≤ 1048576) = True ∧ (l'.length ≤ 1048576) = True ∧ stF ⟨t, v, l⟩ = true ∧ stF ⟨t', v', l'⟩ = true ∧ fitR ⟨t, v, l⟩ ⟨1, t', v', 0, ⟨0, ⟨0, 0, 0, ⟨#[]⟩, ⟨#[]⟩, ⟨#[]⟩⟩⟩⟩ = true ∧ (t != t') = true from ⟨eq_true hl, eq_true hl2, h1, h2, hf, by simp [h4]⟩)
    all_goals
      refine wk1 ?_
      refine am_tidy [(1, 1), (2, 2), (3, 3), (7, 4)] [2, 3, 4, 6, 7] 5 rfl ?_
      refine go1 ?_
      have hH : hardL ⟨t, v, l⟩ ⟨t', v', l'⟩ = [⟨1, t', v', 0, noEnt⟩] := by simp only [hardL, if_neg hh]
  all_goals
    have hL := goal _ rfl
    clear hp goal
    refine am_st ⟨[(2, .c (.ptr 1 0)), (3, .c (.ptr 2 0)), (4, .c (.ptr 3 0)), (6, .c (.own 4 0 (hardL ⟨t, v, l⟩ ⟨t', v', l'⟩).length)), (7, int 0)], [(1, .cells [ci t, ci v, .t (.sl 7 (l.map Ent.tr))]), (2, .cells [ci t', ci v', .t (.sl 7 (l'.map Ent.tr))]), (3, .cells [ci 0, .t (.v (.slice none 0 0))]), (4, .arr 100 11 ((hardL ⟨t, v, l⟩ ⟨t', v', l'⟩).map Rec.tr))], 5⟩ (by rw [hH]; rfl) ?_
    clear hH hh
    simp only [recL, headL]
    generalize hardL ⟨t, v, l⟩ ⟨t', v', l'⟩ = H at hL ⊢
    have hcl := comF_le l l'
    obtain ⟨c, hcd⟩ : ∃ c, c = comF l l' := ⟨_, rfl⟩
    rw [← hcd] at hcl ⊢
    refine am_cut ⟨[(2, .c (.ptr 1 0)), (3, .c (.ptr 2 0)), (4, .c (.ptr 3 0)), (6, .c (.own 4 0 H.length)), (7, int (c : Nat))], [(1, .cells [ci t, ci v, .t (.sl 7 (l.map Ent.tr))]), (2, .cells [ci t', ci v', .t (.sl 7 (l'.map Ent.tr))]), (3, .cells [ci 0, .t (.v (.slice none 0 0))]), (4, .arr 100 11 (H.map Rec.tr))], 5⟩ ?_ (fun KC hKC => ?_)
    rotate_left
    · refine am_loop (l.length + 1) ?_
      suffices key : ∀ (d k : Nat), k + d = l.length → comF (l.drop k) (l'.drop k) + k = c → amR Tryd.prog _ _ _ (d + 1) ⟨[(2, .c (.ptr 1 0)), (3, .c (.ptr 2 0)), (4, .c (.ptr 3 0)), (6, .c (.own 4 0 H.length)), (7, int (k : Nat))], [(1, .cells [ci t, ci v, .t (.sl 7 (l.map Ent.tr))]), (2, .cells [ci t', ci v', .t (.sl 7 (l'.map Ent.tr))]), (3, .cells [ci 0, .t (.v (.slice none 0 0))]), (4, .arr 100 11 (H.map Rec.tr))], 5⟩ from key l.length 0 (by simp) (by simp [hcd])
      intro d
      induction d with
      | zero =>
        intro k hk hf
        rw [comF_end (.inl (by omega))] at hf
        obtain rfl : k = c := by omega
        have hp := And.intro (And.intro hm1 hm2) (show ((k : Int) < (l.length : Int)) = False from eq_false (by omega))
        refine amR_succ ?_
        repeat' (fail_if_success (with_reducible apply amR_id)); first
          | (refine guardP_mk (fun h => ?_) (fun h => ?_) <;> (refine go1 ?_; try simp only [decide_eq_true_eq, decide_eq_false_iff_not, Bool.not_true, Bool.not_false, Bool.not_eq_true', Bool.not_eq_false', beq_iff_eq, bne_iff_ne, beq_eq_false_iff_ne, bne_eq_false_iff_eq, ne_eq, Bool.false_eq_true, reduceCtorEq] at h))
          | (refine hK _ ?_; clear hK K Q1)
          | (refine ⟨by first | omega | (simp only [List.length_map, List.length_append, List.length_cons, List.length_nil, List.length_replicate, List.length_drop, List.length_take]; omega), by unfold maxLen; first | omega | (simp only [List.length_map, List.length_append, List.length_cons, List.length_nil, List.length_replicate, List.length_drop, List.length_take]; omega), ?_⟩)
          | (refine hK _ _ rfl ?_; clear hK K; try refine go1 ?_)
          | (refine am_retP rfl ?_ rfl; first | refine go ?_ | rfl)
          | (refine am_retC [] rfl ?_ rfl rfl; first | refine go ?_ | rfl)
          | (refine wkq ?_)
          | (refine am_rs tabOk kOk rfl fun K Q1 hK => ?_; refine go1 ?_)
          | (refine am_reg tabOk kOk rfl fun K Q1 hK => ?_; refine go1 ?_)
          | (refine am_ds mixed tabOk kOk rfl rfl fun K hK => ?_; refine go1 ?_)
          | (refine am_dreg mixed tabOk kOk rfl rfl fun K hK => ?_; refine go1 ?_)
        all_goals (refine hKC _ [(1, 1), (2, 2), (3, 3), (4, 4)] [2, 3, 4, 6, 7] 5 rfl ?_; first | rfl | (refine go ?_; rfl))
      | succ d ih =>
        intro k hk hf
        obtain ⟨e, he⟩ : ∃ e, l[k]? = some e := ⟨l[k]'(by omega), List.getElem?_eq_getElem (by omega)⟩
        by_cases hk2 : l'.length ≤ k
        · rw [comF_end (.inr hk2)] at hf
          obtain rfl : k = c := by omega
          have hp := And.intro (And.intro hm1 hm2) (show ((k : Int) < (l.length : Int)) = True ∧ ((k : Int) < (l'.length : Int)) = False from ⟨eq_true (by omega), eq_false (by omega)⟩)
          refine amR_succ ?_
          repeat' (fail_if_success (with_reducible apply amR_id)); first
            | (refine guardP_mk (fun h => ?_) (fun h => ?_) <;> (refine go1 ?_; try simp only [decide_eq_true_eq, decide_eq_false_iff_not, Bool.not_true, Bool.not_false, Bool.not_eq_true', Bool.not_eq_false', beq_iff_eq, bne_iff_ne, beq_eq_false_iff_ne, bne_eq_false_iff_eq, ne_eq, Bool.false_eq_true, reduceCtorEq] at h))
            | (refine hK _ ?_; clear hK K Q1)
            | (refine ⟨by first | omega | (simp only [List.length_map, List.length_append, List.length_cons, List.length_nil, List.length_replicate, List.length_drop, List.length_take]; omega), by unfold maxLen; first | omega | (simp only [List.length_map, List.length_append, List.length_cons, List.length_nil, List.length_replicate, List.length_drop, List.length_take]; omega), ?_⟩)
            | (refine hK _ _ rfl ?_; clear hK K; try refine go1 ?_)
            | (refine am_retP rfl ?_ rfl; first | refine go ?_ | rfl)
            | (refine am_retC [] rfl ?_ rfl rfl; first | refine go ?_ | rfl)
            | (refine wkq ?_)
            | (refine am_rs tabOk kOk rfl fun K Q1 hK => ?_; refine go1 ?_)
            | (refine am_reg tabOk kOk rfl fun K Q1 hK => ?_; refine go1 ?_)
            | (refine am_ds mixed tabOk kOk rfl rfl fun K hK => ?_; refine go1 ?_)
            | (refine am_dreg mixed tabOk kOk rfl rfl fun K hK => ?_; refine go1 ?_)
          all_goals (refine hKC _ [(1, 1), (2, 2), (3, 3), (4, 4)] [2, 3, 4, 6, 7] 5 rfl ?_; first | rfl | (refine go ?_; rfl))
        · obtain ⟨e', he'⟩ : ∃ e, l'[k]? = some e := ⟨l'[k]'(by omega), List.getElem?_eq_getElem (by omega)⟩
          rw [comF_drop he he'] at hf
          have hp := And.intro (And.intro hm1 hm2) (show ((k : Int) < (l.length : Int)) = True ∧ ((k : Int) < (l'.length : Int)) = True ∧ (k < l.length) = True ∧ (k < l'.length) = True ∧ (l.map Ent.tr)[k]? = some e.tr ∧ (l'.map Ent.tr)[k]? = some e'.tr ∧ IntKind.i64.wrap ((k : Int) + 1) = ((k + 1 : Nat) : Int) from ⟨eq_true (by omega), eq_true (by omega), eq_true (by omega), eq_true (by omega), by rw [List.getElem?_map, he]; rfl, by rw [List.getElem?_map, he']; rfl, by rw [wrapN (by omega) (by omega)]; rfl⟩)
          by_cases hee : e = e'
          · subst hee
            rw [if_pos rfl] at hf
            have hq := (show (∀ x : Int, (x == x) = true) ∧ (∀ x : ByteArray, (x == x) = true) from ⟨fun x => by simp, fun x => by rw [beq_toListBytes]; simp⟩)
            obtain ⟨ta, ⟨aa, ba, oa, xa, ya, za⟩⟩ := e
            simp only [Ent.tr] at hp
            replace hp := And.intro hp hq
            refine amR_succ ?_
            repeat' (fail_if_success (with_reducible apply amR_id)); first
              | (refine guardP_mk (fun h => ?_) (fun h => ?_) <;> (refine go1 ?_; try simp only [decide_eq_true_eq, decide_eq_false_iff_not, Bool.not_true, Bool.not_false, Bool.not_eq_true', Bool.not_eq_false', beq_iff_eq, bne_iff_ne, beq_eq_false_iff_ne, bne_eq_false_iff_eq, ne_eq, Bool.false_eq_true, reduceCtorEq] at h))
              | (refine hK _ ?_; clear hK K Q1)
              | (refine ⟨by first | omega | (simp only [List.length_map, List.length_append, List.length_cons, List.length_nil, List.length_replicate, List.length_drop, List.length_take]; omega), by unfold maxLen; first | omega | (simp only [List.length_map, List.length_append, List.length_cons, List.length_nil, List.length_replicate, List.length_drop, List.length_take]; omega), ?_⟩)
              | (refine hK _ _ rfl ?_; clear hK K; try refine go1 ?_)
              | (refine am_retP rfl ?_ rfl; first | refine go ?_ | rfl)
              | (refine am_retC [] rfl ?_ rfl rfl; first | refine go ?_ | rfl)
              | (refine wkq ?_)
              | (refine am_rs tabOk kOk rfl fun K Q1 hK => ?_; refine go1 ?_)
              | (refine am_reg tabOk kOk rfl fun K Q1 hK => ?_; refine go1 ?_)
              | (refine am_ds mixed tabOk kOk rfl rfl fun K hK => ?_; refine go1 ?_)
              | (refine am_dreg mixed tabOk kOk rfl rfl fun K hK => ?_; refine go1 ?_)
            all_goals (refine amR_tidy [(1, 1), (2, 2), (3, 3), (4, 4)] [2, 3, 4, 6, 7] 5 rfl ?_; refine go1 ?_; exact ih (k + 1) (by omega) (by omega))
          · rw [if_neg hee] at hf
            obtain rfl : k = c := by omega
            obtain ⟨ta, ⟨aa, ba, oa, xa, ya, za⟩⟩ := e
            obtain ⟨tb, ⟨ab, bb, ob, xb, yb, zb⟩⟩ := e'
            simp only [Ent.tr] at hp
            have hne : (ta == tb && (aa == ab && (ba == bb && (oa == ob && (xa == xb && (ya == yb && za == zb)))))) = false := by
              rw [Bool.eq_false_iff]
              intro h
              simp only [Bool.and_eq_true, beq_iff_eq, bbIff] at h
              obtain ⟨rfl, rfl, rfl, rfl, rfl, rfl, rfl⟩ := h
              exact hee rfl
            replace hp := And.intro hp hne
            refine amR_succ ?_
            repeat' (fail_if_success (with_reducible apply amR_id)); first
              | (refine guardP_mk (fun h => ?_) (fun h => ?_) <;> (refine go1 ?_; try simp only [decide_eq_true_eq, decide_eq_false_iff_not, Bool.not_true, Bool.not_false, Bool.not_eq_true', Bool.not_eq_false', beq_iff_eq, bne_iff_ne, beq_eq_false_iff_ne, bne_eq_false_iff_eq, ne_eq, Bool.false_eq_true, reduceCtorEq] at h))
              | (refine hK _ ?_; clear hK K Q1)
              | (refine ⟨by first | omega | (simp only [List.length_map, List.length_append, List.length_cons, List.length_nil, List.length_replicate, List.length_drop, List.length_take]; omega), by unfold maxLen; first | omega | (simp only [List.length_map, List.length_append, List.length_cons, List.length_nil, List.length_replicate, List.length_drop, List.length_take]; omega), ?_⟩)
              | (refine hK _ _ rfl ?_; clear hK K; try refine go1 ?_)
              | (refine am_retP rfl ?_ rfl; first | refine go ?_ | rfl)
              | (refine am_retC [] rfl ?_ rfl rfl; first | refine go ?_ | rfl)
              | (refine wkq ?_)
              | (refine am_rs tabOk kOk rfl fun K Q1 hK => ?_; refine go1 ?_)
              | (refine am_reg tabOk kOk rfl fun K Q1 hK => ?_; refine go1 ?_)
              | (refine am_ds mixed tabOk kOk rfl rfl fun K hK => ?_; refine go1 ?_)
              | (refine am_dreg mixed tabOk kOk rfl rfl fun K hK => ?_; refine go1 ?_)
            all_goals (refine hKC _ [(1, 1), (2, 2), (3, 3), (4, 4)] [2, 3, 4, 6, 7] 5 rfl ?_; first | rfl | (refine go ?_; rfl))
    · obtain ⟨J, hJ⟩ : ∃ J, J = H ++ cutL ⟨t, v, l⟩ c := ⟨_, rfl⟩
      rw [← hJ]
      have hJl : J.length ≤ 2 := by rw [hJ, List.length_append]; unfold cutL; split <;> simp <;> omega
      by_cases hq : c < l.length
      case' pos =>
        have hp := And.intro (And.intro hm1 hm2) (show ((c : Int) < (l.length : Int)) = True ∧ (H.length + 1 ≤ maxLen) = True ∧ (H.length + 1 ≤ 140737488355328) = True ∧ (H.length ≤ (H.map Rec.tr).length) = True ∧ (H.map Rec.tr).take H.length = H.map Rec.tr ∧ (H.map Rec.tr).length = H.length from ⟨eq_true (by omega), eq_true (by unfold maxLen; omega), eq_true (by omega), eq_true (by simp), List.take_of_length_le (by simp), by simp⟩)
        refine wk1 ?_
        refine am_reg tabOk kOk rfl fun K Q1 hK => ?_
        refine go1 ?_
        refine ⟨by omega, ?_⟩
        refine hK _ ?_
        clear hK K Q1
        refine go1 ?_
        refine wk1 ?_
        refine am_tidy [(1, 1), (2, 2), (3, 3), (6, 4)] [2, 3, 4, 6, 8] 5 rfl ?_
        refine go1 ?_
        have hJ2 : J = H ++ [⟨3, 0, 0, ((c : Nat) : Int), noEnt⟩] := by rw [hJ]; simp only [cutL, if_pos hq]
      case' neg =>
        have hp := And.intro (And.intro hm1 hm2) (show ((c : Int) < (l.length : Int)) = False from eq_false (by omega))
        refine wk1 ?_
        refine am_tidy [(1, 1), (2, 2), (3, 3), (4, 4)] [2, 3, 4, 6, 8] 5 rfl ?_
        refine go1 ?_
        have hJ2 : J = H := by rw [hJ]; simp only [cutL, if_neg hq, List.append_nil]
      all_goals
        clear hp
        refine am_st ⟨[(2, .c (.ptr 1 0)), (3, .c (.ptr 2 0)), (4, .c (.ptr 3 0)), (6, .c (.own 4 0 J.length)), (8, int (c : Nat))], [(1, .cells [ci t, ci v, .t (.sl 7 (l.map Ent.tr))]), (2, .cells [ci t', ci v', .t (.sl 7 (l'.map Ent.tr))]), (3, .cells [ci 0, .t (.v (.slice none 0 0))]), (4, .arr 100 11 (J.map Rec.tr))], 5⟩ (by rw [hJ2]; try simp [Rec.tr, noEnt]) ?_
        clear hJ2 hJ
        refine am_loop (l'.length - c + 1) ?_
        suffices key : ∀ (d i : Nat), i + d = l'.length → c ≤ i → amR Tryd.prog _ _ _ (d + 1) ⟨[(2, .c (.ptr 1 0)), (3, .c (.ptr 2 0)), (4, .c (.ptr 3 0)), (6, .c (.own 4 0 (J ++ addT l' c i).length)), (8, int (i : Nat))], [(1, .cells [ci t, ci v, .t (.sl 7 (l.map Ent.tr))]), (2, .cells [ci t', ci v', .t (.sl 7 (l'.map Ent.tr))]), (3, .cells [ci 0, .t (.v (.slice none 0 0))]), (4, .arr 100 11 ((J ++ addT l' c i).map Rec.tr))], 5⟩ from by
          have := key (l'.length - c) c (by omega) (Nat.le_refl _)
          rw [addT_zero, List.append_nil] at this
          exact this
        intro d
        induction d with
        | zero =>
          intro i hi hci
          obtain rfl : i = l'.length := hi
          rw [addT_all]
          have hp := And.intro (And.intro hm1 hm2) (show ((l'.length : Int) < (l'.length : Int)) = False from eq_false (by omega))
          refine amR_succ ?_
          refine wk1 ?_
          refine am_retC [(4, 1)] rfl ?_ rfl rfl
          first | refine go ?_ | rfl
        | succ d ih =>
          intro i hi hci
          obtain ⟨e, he⟩ : ∃ e, l'[i]? = some e := ⟨l'[i]'(by omega), List.getElem?_eq_getElem (by omega)⟩
          have ihk := ih (i + 1) (by omega) (by omega)
          rw [addT_succ he hci] at ihk
          have hXl : (J ++ addT l' c i).length ≤ 1048580 := by rw [List.length_append, addT_len (by omega)]; omega
          rw [← List.append_assoc] at ihk
          clear ih
          generalize J ++ addT l' c i = X at hXl ihk ⊢
          have hp := And.intro (And.intro hm1 hm2) (show ((i : Int) < (l'.length : Int)) = True ∧ (i < l'.length) = True ∧ (l'.map Ent.tr)[i]? = some e.tr ∧ IntKind.i64.wrap ((i : Int) + 1) = ((i + 1 : Nat) : Int) ∧ (X.length + 1 ≤ maxLen) = True ∧ ((X.length + 1) * 112 ≤ 140737488355328) = True ∧ (X.map Rec.tr).take X.length = X.map Rec.tr ∧ (X.map Rec.tr).length = X.length from ⟨eq_true (by omega), eq_true (by omega), by rw [List.getElem?_map, he]; rfl, by rw [wrapN (by omega) (by omega)]; rfl, eq_true (by unfold maxLen; omega), eq_true (by omega), List.take_of_length_le (by simp), by simp⟩)
          obtain ⟨ta, ⟨aa, ba, oa, xa, ya, za⟩⟩ := e
          simp only [Ent.tr] at hp
          refine amR_succ ?_
          refine wk1 ?_
          refine amR_tidy [(1, 1), (2, 2), (3, 3), (6, 4)] [2, 3, 4, 6, 8] 5 rfl ?_
          refine go1 ?_
          refine amR_st ?_ ihk
          simp [Rec.tr]
end Go.Proofs.YtaolgdpkcbfocaaDoorA
