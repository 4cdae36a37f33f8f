/- Rows of records encoded: the law holds at every argument. -/
import Derived.Test.YtaolgdpkcbfocaaDoorGRec3
namespace Go.Proofs.YtaolgdpkcbfocaaDoorA
open Go.Proofs
set_option autoImplicit false
set_option linter.unusedVariables false
set_option linter.unusedSimpArgs false
set_option maxRecDepth 4000
set_option maxHeartbeats 8000000 in
theorem eqBysL_tc (l r : List Int) (hl : l.length ≤ 1073741824) : TC Tryd.prog 13 [ro 1 (l.map bTr), ro 1 (r.map bTr)] [] 1 (bool (decide (l = r))) [] 1 := by
  refine tc_intro Tryd.func13 rfl 26 rfl (Nat.le_of_ble_eq_true rfl) (by decide) [4] rfl (by intro id x h; cases h) ?_
  intro w0 E0
  have kOk := k54
  have hp : (l.map bTr).length = l.length ∧ (r.map bTr).length = r.length := by simp
  refine wk1 ?_
  refine guardP_mk (fun h => ?_) (fun h => ?_)
  · refine go1 ?_
    refine wk1 ?_
    refine am_retP rfl ?_ rfl
    refine go ?_
    have : ¬ l = r := fun e => by subst e; simp at h
    simp [this]
  have hlr : l.length = r.length := by simp at h; omega
  refine go1 ?_
  refine wk1 ?_
  refine am_tidy [] [0, 1, 5] 1 rfl ?_
  refine go1 ?_
  clear hp
  refine am_loop (l.length + 1) ?_
  suffices key : ∀ (d k : Nat), k + d = l.length → l.take k = r.take k → amR Tryd.prog _ _ _ (d + 1) ⟨[(0, ro 1 (l.map bTr)), (1, ro 1 (r.map bTr)), (5, int (k : Nat))], [], 1⟩ from key l.length 0 (by simp) rfl
  intro d
  induction d with
  | zero =>
    intro k hk ht
    have hp : (l.map bTr).length = l.length := by simp
    refine amR_succ ?_
    refine wk1 ?_
    refine guardP_mk (fun h => ?_) (fun h => ?_)
    · simp at h; omega
    · refine go1 ?_
      refine wk1 ?_
      refine am_retP rfl ?_ rfl
      refine go ?_
      have : l = r := by rwa [List.take_of_length_le (by omega), List.take_of_length_le (by omega)] at ht
      simp [this]
  | succ d ih =>
    intro k hk ht
    obtain ⟨e, he⟩ : ∃ e, l[k]? = some e := ⟨l[k]'(by omega), List.getElem?_eq_getElem (by omega)⟩
    obtain ⟨e', he'⟩ : ∃ e', r[k]? = some e' := ⟨r[k]'(by omega), List.getElem?_eq_getElem (by omega)⟩
    have hp := (show (l.map bTr).length = l.length ∧ (l.map bTr)[k]? = some (bTr e) ∧ (r.map bTr)[k]? = some (bTr e') ∧ IntKind.i64.wrap ((k : Int) + 1) = ((k + 1 : Nat) : Int) from
      ⟨by simp, by rw [List.getElem?_map, he]; rfl, by rw [List.getElem?_map, he']; rfl, by rw [wrapN (by omega) (by omega)]; rfl⟩)
    have hee : e = e' → l.take (k + 1) = r.take (k + 1) := fun h => by rw [List.take_add_one, List.take_add_one, ht, he, he', h]
    have hne : e ≠ e' → l ≠ r := fun hx h2 => by subst h2; rw [he] at he'; exact hx (Option.some.inj he')
    obtain e := e
    obtain e' := e'
    simp only [bTr] at hp
    refine amR_succ ?_
    refine wk1 ?_
    refine guardP_mk (fun h => ?_) (fun h => ?_)
    · refine go1 ?_
      refine wk1 ?_
      refine guardP_mk (fun h => ?_) (fun h => ?_)
      · refine go1 ?_
        refine wk1 ?_
        refine am_retP rfl ?_ rfl
        refine go ?_
        have := hne (by intro hx; simp at h; simp_all)
        simp [this]
      · refine go1 ?_
        refine wk1 ?_
        refine amR_tidy [] [0, 1, 5] 1 rfl ?_
        refine go1 ?_
        exact ih (k + 1) (by omega) (hee (by simp at h; simp_all))
    · simp at h; omega
def kn107_0_1 (n : Int) (l : List Rec) : Option TV := if l.length ≤ maxLen then some (int (szRsF l n)) else none
def kn107_0_0 (n : Int) (r0 : List (List Tree)) : Option TV := (unRecs r0).bind (kn107_0_1 n)
def kn107_0 : List TV → Option TV
  | [.c (.t (.sl 11 r0)), .c (.t (.v (.int .i64 n)))] => kn107_0_0 n r0
  | _ => none
def kn107_1_2 (l : List Rec) (r : List Rec) : Option TV := if l.length ≤ 1048576 then some (bool (decide (l = r))) else none
def kn107_1_1 (r1 : List (List Tree)) (l : List Rec) : Option TV := (unRecs r1).bind (kn107_1_2 l)
def kn107_1_0 (r0 : List (List Tree)) (r1 : List (List Tree)) : Option TV := (unRecs r0).bind (kn107_1_1 r1)
def kn107_1 : List TV → Option TV
  | [.c (.t (.sl 11 r0)), .c (.t (.sl 11 r1))] => kn107_1_0 r0 r1
  | _ => none
def kn107_2_2 (a : List Int) (b : List Int) : Option TV := if a.length ≤ 1073741824 then some (bool (decide (a = b))) else none
def kn107_2_1 (r1 : List (List Tree)) (a : List Int) : Option TV := (unBys r1).bind (kn107_2_2 a)
def kn107_2_0 (r0 : List (List Tree)) (r1 : List (List Tree)) : Option TV := (unBys r0).bind (kn107_2_1 r1)
def kn107_2 : List TV → Option TV
  | [.c (.t (.sl 1 r0)), .c (.t (.sl 1 r1))] => kn107_2_0 r0 r1
  | _ => none
def kn107_call (f : FuncId) (args : List TV) : Option TV := if f = 20 then orO (kn107_0 args) (kn100.call f args) else if f = 24 then orO (kn107_1 args) (kn100.call f args) else if f = 13 then orO (kn107_2 args) (kn100.call f args) else kn100.call f args
def kn107 : Kn := { call := kn107_call, eqs := eqTys, callB := kn100.callB }
attribute [go_sem] kn107_0_0 kn107_0_1 kn107_0 kn107_1_0 kn107_1_1 kn107_1_2 kn107_1 kn107_2_0 kn107_2_1 kn107_2_2 kn107_2 kn107_call kn107
theorem kn107_ok : ∀ f args res, kn107_call f args = some res → TC Tryd.prog f args [] 1 res [] 1 := by
  intro f args res h
  unfold kn107_call at h
  split at h
  · rename_i e; subst e
    have hh := orO_elim h
    clear h
    rcases hh with h | h
    rotate_left
    · exact k100.call _ _ _ h
    unfold kn107_0 at h
    split at h
    · rename_i r0 n; unfold kn107_0_0 at h
      obtain ⟨l, e0, h⟩ := Option.bind_eq_some_iff.1 h
      unfold kn107_0_1 at h
      split at h
      · rename_i hc; cases h; rw [unRecs_ok e0]; exact szRs_tc l n hc
      · cases h
    · cases h
  split at h
  · rename_i e; subst e
    have hh := orO_elim h
    clear h
    rcases hh with h | h
    rotate_left
    · exact k100.call _ _ _ h
    unfold kn107_1 at h
    split at h
    · rename_i r0 r1; unfold kn107_1_0 at h
      obtain ⟨l, e0, h⟩ := Option.bind_eq_some_iff.1 h
      unfold kn107_1_1 at h
      obtain ⟨r, e1, h⟩ := Option.bind_eq_some_iff.1 h
      unfold kn107_1_2 at h
      split at h
      · rename_i hc; cases h; rw [unRecs_ok e0, unRecs_ok e1]; exact eqRecs_tc l r hc
      · cases h
    · cases h
  split at h
  · rename_i e; subst e
    have hh := orO_elim h
    clear h
    rcases hh with h | h
    rotate_left
    · exact k100.call _ _ _ h
    unfold kn107_2 at h
    split at h
    · rename_i r0 r1; unfold kn107_2_0 at h
      obtain ⟨a, e0, h⟩ := Option.bind_eq_some_iff.1 h
      unfold kn107_2_1 at h
      obtain ⟨b, e1, h⟩ := Option.bind_eq_some_iff.1 h
      unfold kn107_2_2 at h
      split at h
      · rename_i hc; cases h; rw [unBys_ok e0, unBys_ok e1]; exact eqBysL_tc a b hc
      · cases h
    · cases h
  · exact k100.call f args res h
theorem k107 : KnOk Tryd.prog kn107 := ⟨kn107_ok, eqTysOk, k100.callB⟩
def kn108_0_1 (l : List Rec) : CB := if l.length ≤ 1048576 then some (.c (.own 1 0 l.length), [(1, .arr 100 11 (l.map Rec.tr))], 2) else none
def kn108_0_0 (r0 : List (List Tree)) : CB := (unRecs r0).bind (kn108_0_1)
def kn108_0 : List TV → List (Nat × AObj) → CB
  | [.c (.t (.sl 11 r0))], [] => kn108_0_0 r0
  | _, _ => none
def kn108_1_1 (n : Nat) (k : Int) (l : List Rec) : CB := if n = l.length ∧ 0 ≤ k ∧ k + 11 * (l.length : Nat) ≤ 1099511627776 then some (int (k + 11 * (l.length : Nat)), [(1, .arr 100 11 ((mkRs l.length k).map Rec.tr))], 2) else none
def kn108_1_0 (n : Nat) (k : Int) (r0 : List (List Tree)) : CB := (unRecs r0).bind (kn108_1_1 n k)
def kn108_1 : List TV → List (Nat × AObj) → CB
  | [.c (.own 1 0 n), .c (.t (.v (.int .i64 k)))], [(1, .arr 100 11 r0)] => kn108_1_0 n k r0
  | _, _ => none
def kn108_2_1 (l : List Rec) : CB := if l.length ≤ 1048576 then some (.c (.own 1 0 (recO l).length), [(1, .arr 5 1 ((recO l).map bTr))], 2) else none
def kn108_2_0 (r0 : List (List Tree)) : CB := (unRecs r0).bind (kn108_2_1)
def kn108_2 : List TV → List (Nat × AObj) → CB
  | [.c (.t (.sl 11 r0))], [] => kn108_2_0 r0
  | _, _ => none
def kn108_3_1 (l : List Rec) : CB := if l.length ≤ 1048576 then some (.c (.own 1 0 (recO l).length), [(1, .arr 5 1 ((recO l).map bTr))], 2) else none
def kn108_3_0 (r0 : List (List Tree)) : CB := (unRecs r0).bind (kn108_3_1)
def kn108_3 : List TV → List (Nat × AObj) → CB
  | [.c (.t (.sl 11 r0))], [] => kn108_3_0 r0
  | _, _ => none
def kn108_call (f : FuncId) (args : List TV) (o : List (Nat × AObj)) : CB := if f = 22 then orO (kn108_0 args o) (kn107.callB f args o) else if f = 25 then orO (kn108_1 args o) (kn107.callB f args o) else if f = 23 then orO (kn108_2 args o) (kn107.callB f args o) else if f = 21 then orO (kn108_3 args o) (kn107.callB f args o) else kn107.callB f args o
def kn108 : Kn := { call := kn107.call, eqs := eqTys, callB := kn108_call }
attribute [go_sem] kn108_0_0 kn108_0_1 kn108_0 kn108_1_0 kn108_1_1 kn108_1 kn108_2_0 kn108_2_1 kn108_2 kn108_3_0 kn108_3_1 kn108_3 kn108_call kn108
theorem kn108_ok : ∀ f args o res o1 n1, kn108_call f args o = some (res, o1, n1) → TC Tryd.prog f args o (o.length + 1) res o1 n1 := by
  intro f args o res o1 n1 h
  unfold kn108_call at h
  split at h
  · rename_i e; subst e
    have hh := orO_elim h
    clear h
    rcases hh with h | h
    rotate_left
    · exact k107.callB _ _ _ _ _ _ h
    unfold kn108_0 at h
    split at h
    · rename_i r0; unfold kn108_0_0 at h
      have hb0 := Option.bind_eq_some_iff.1 h
      clear h
      obtain ⟨l, e0, h⟩ := hb0
      unfold kn108_0_1 at h
      split at h
      · rename_i hc; cases h; rw [unRecs_ok e0]; exact toRecs_tc l hc
      · cases h
    · cases h
  split at h
  · rename_i e; subst e
    have hh := orO_elim h
    clear h
    rcases hh with h | h
    rotate_left
    · exact k107.callB _ _ _ _ _ _ h
    unfold kn108_1 at h
    split at h
    · rename_i n k r0; unfold kn108_1_0 at h
      have hb0 := Option.bind_eq_some_iff.1 h
      clear h
      obtain ⟨l, e0, h⟩ := hb0
      unfold kn108_1_1 at h
      split at h
      · rename_i hc; cases h; rw [unRecs_ok e0]; obtain ⟨rfl, h1, h2⟩ := hc; exact markRs_tc l k h1 h2
      · cases h
    · cases h
  split at h
  · rename_i e; subst e
    have hh := orO_elim h
    clear h
    rcases hh with h | h
    rotate_left
    · exact k107.callB _ _ _ _ _ _ h
    unfold kn108_2 at h
    split at h
    · rename_i r0; unfold kn108_2_0 at h
      have hb0 := Option.bind_eq_some_iff.1 h
      clear h
      obtain ⟨l, e0, h⟩ := hb0
      unfold kn108_2_1 at h
      split at h
      · rename_i hc; cases h; rw [unRecs_ok e0]; exact erI_tc l hc
      · cases h
    · cases h
  split at h
  · rename_i e; subst e
    have hh := orO_elim h
    clear h
    rcases hh with h | h
    rotate_left
    · exact k107.callB _ _ _ _ _ _ h
    unfold kn108_3 at h
    split at h
    · rename_i r0; unfold kn108_3_0 at h
      have hb0 := Option.bind_eq_some_iff.1 h
      clear h
      obtain ⟨l, e0, h⟩ := hb0
      unfold kn108_3_1 at h
      split at h
      · rename_i hc; cases h; rw [unRecs_ok e0]; exact erS_tc l hc
      · cases h
    · cases h
  · exact k107.callB f args o res o1 n1 h
theorem k108 : KnOk Tryd.prog kn108 := ⟨k107.call, eqTysOk, kn108_ok⟩
theorem szRs_len {l : List Rec} (hl : l.length ≤ maxLen) (h : ¬ szRsF l 1048576 < 0) : l.length ≤ 1048576 := by
  unfold maxLen at hl
  unfold szRsF at h
  split at h
  · omega
  · rename_i h2
    rw [IntKind.wrap_i64] at h2
    omega
set_option maxHeartbeats 32000000 in
theorem lawEncRs_tc (l : List Rec) (hm : l.length ≤ maxLen) : TC Tryd.prog 5 [ro 11 (l.map Rec.tr)] [] 1 (bool true) [] 1 := by
  have hx : ∀ x : Int, (x != x) = false := fun x => by simp
  refine tc_intro Tryd.func5 rfl 69 rfl (Nat.le_of_ble_eq_true rfl) (by decide) [2] rfl (by intro id x h; cases h) ?_
  intro w0 E0
  have kOk := k108
  by_cases hz : szRsF l 1048576 < 0
  · have hp := (show (l.length ≤ maxLen) = True ∧ (szRsF l 1048576 < 0) = True ∧ ((-1 : Int) < 0) = True from ⟨eq_true hm, eq_true hz, by simp⟩)
    repeat' (fail_if_success (with_reducible apply amR_id)); first
      | (refine guardP_mk (fun h => ?_) (fun h => ?_) <;> (refine go1 ?_; try simp only [decide_eq_true_eq, decide_eq_false_iff_not, Bool.not_true, Bool.not_false, Bool.not_eq_true', Bool.not_eq_false', beq_iff_eq, bne_iff_ne, beq_eq_false_iff_ne, bne_eq_false_iff_eq, ne_eq, Bool.false_eq_true, reduceCtorEq] at h))
      | (refine hK _ ?_; clear hK K Q1)
      | (refine ⟨by first | omega | (simp only [List.length_map, List.length_append, List.length_cons, List.length_nil, List.length_replicate, List.length_drop, List.length_take]; omega), by unfold maxLen; first | omega | (simp only [List.length_map, List.length_append, List.length_cons, List.length_nil, List.length_replicate, List.length_drop, List.length_take]; omega), ?_⟩)
      | (refine hK _ _ rfl ?_; clear hK K; try refine go1 ?_)
      | (refine am_retP rfl ?_ rfl; first | refine go ?_ | rfl)
      | (refine am_retC [] rfl ?_ rfl rfl; first | refine go ?_ | rfl)
      | (refine wkq ?_)
      | (refine am_rs tabOk kOk rfl fun K Q1 hK => ?_; refine go1 ?_)
      | (refine am_reg tabOk kOk rfl fun K Q1 hK => ?_; refine go1 ?_)
      | (refine am_ds mixed tabOk kOk rfl rfl fun K hK => ?_; refine go1 ?_)
      | (refine am_dreg mixed tabOk kOk rfl rfl fun K hK => ?_; refine go1 ?_)
    all_goals rfl
  have hle := szRs_len hm hz
  have hL := recO_len l
  generalize hW : recO l = W at hL
  have hp := (show (l.length ≤ maxLen) = True ∧ (szRsF l 1048576 < 0) = False ∧ (l.length ≤ 1048576) = True ∧ (1 + 11 * (l.length : Int) ≤ 1099511627776) = True ∧ (1 + 11 * (l.length : Int) < 0) = False ∧ recO l = W ∧ (∀ x : Int, (x != x) = false) ∧ (W.length ≤ 1073741824) = True ∧ (mkBs W.length 1).length = W.length ∧ (1 + (W.length : Int) ≤ 1099511627776) = True ∧ ((0:Int) ≤ 1) = True ∧ (1 + (W.length : Int) < 0) = False ∧ ((-1 : Int) < 0) = True from ⟨eq_true hm, eq_false hz, eq_true hle, eq_true (by omega), eq_false (by omega), hW, hx, eq_true (by omega), mkBs_len _ _, eq_true (by omega), by simp, eq_false (by omega), by simp⟩)
  repeat' (fail_if_success (with_reducible apply amR_id)); first
    | (refine guardP_mk (fun h => ?_) (fun h => ?_) <;> (refine go1 ?_; try simp only [decide_eq_true_eq, decide_eq_false_iff_not, Bool.not_true, Bool.not_false, Bool.not_eq_true', Bool.not_eq_false', beq_iff_eq, bne_iff_ne, beq_eq_false_iff_ne, bne_eq_false_iff_eq, ne_eq, Bool.false_eq_true, reduceCtorEq] at h))
    | (refine hK _ ?_; clear hK K Q1)
    | (refine ⟨by first | omega | (simp only [List.length_map, List.length_append, List.length_cons, List.length_nil, List.length_replicate, List.length_drop, List.length_take]; omega), by unfold maxLen; first | omega | (simp only [List.length_map, List.length_append, List.length_cons, List.length_nil, List.length_replicate, List.length_drop, List.length_take]; omega), ?_⟩)
    | (refine hK _ _ rfl ?_; clear hK K; try refine go1 ?_)
    | (refine am_retP rfl ?_ rfl; first | refine go ?_ | rfl)
    | (refine am_retC [] rfl ?_ rfl rfl; first | refine go ?_ | rfl)
    | (refine wkq ?_)
    | (refine am_rs tabOk kOk rfl fun K Q1 hK => ?_; refine go1 ?_)
    | (refine am_reg tabOk kOk rfl fun K Q1 hK => ?_; refine go1 ?_)
    | (refine am_ds mixed tabOk kOk rfl rfl fun K hK => ?_; refine go1 ?_)
    | (refine am_dreg mixed tabOk kOk rfl rfl fun K hK => ?_; refine go1 ?_)
  all_goals rfl
theorem op_Rec : OpT Tryd.prog (fun xs => ∃ c : Rec, xs = c.tr) 94 := by
  refine opT_weak (opT_struct Tryd.underlying94 (by kernel_rfl) (opT_cons (s := 1) rfl (by kernel_rfl) (opT_int Tryd.underlying3) (opT_cons (s := 1) rfl (by kernel_rfl) (opT_int Tryd.underlying3) (opT_cons (s := 1) rfl (by kernel_rfl) (opT_int Tryd.underlying3) (opT_cons (s := 1) rfl (by kernel_rfl) (opT_int Tryd.underlying3) (opT_cons (s := 7) rfl (by kernel_rfl) (opT_struct Tryd.underlying92 (by kernel_rfl) (opT_cons (s := 1) rfl (by kernel_rfl) (opT_int Tryd.underlying3) (opT_cons (s := 6) rfl (by kernel_rfl) (opT_struct Tryd.underlying33 (by kernel_rfl) (opT_cons (s := 1) rfl (by kernel_rfl) (opT_int Tryd.underlying3) (opT_cons (s := 1) rfl (by kernel_rfl) (opT_int Tryd.underlying3) (opT_cons (s := 1) rfl (by kernel_rfl) (opT_int Tryd.underlying3) (opT_cons (s := 1) rfl (by kernel_rfl) (opT_string Tryd.underlying9) (opT_cons (s := 1) rfl (by kernel_rfl) (opT_string Tryd.underlying9) (opT_cons (s := 1) rfl (by kernel_rfl) (opT_string Tryd.underlying9) opT_nil))))))) opT_nil))) opT_nil)))))) ?_
  rintro xs ⟨_, _, rfl, ⟨a2, rfl, _⟩, ⟨_, _, rfl, ⟨a3, rfl, _⟩, ⟨_, _, rfl, ⟨a4, rfl, _⟩, ⟨_, _, rfl, ⟨a5, rfl, _⟩, ⟨_, _, rfl, ⟨_, _, rfl, ⟨a7, rfl, _⟩, ⟨_, _, rfl, ⟨_, _, rfl, ⟨a9, rfl, _⟩, ⟨_, _, rfl, ⟨a10, rfl, _⟩, ⟨_, _, rfl, ⟨a11, rfl, _⟩, ⟨_, _, rfl, ⟨a12, rfl, _⟩, ⟨_, _, rfl, ⟨a13, rfl, _⟩, ⟨_, _, rfl, ⟨a14, rfl, _⟩, rfl⟩⟩⟩⟩⟩⟩, rfl⟩⟩, rfl⟩⟩⟩⟩⟩
  exact ⟨⟨a2, a3, a4, a5, ⟨a7, ⟨a9, a10, a11, a12, a13, a14⟩⟩⟩, rfl⟩
theorem op_Recs : OpT Tryd.prog (fun xs => ∃ cs : List Rec, xs = [.sl 11 (cs.map Rec.tr)] ∧ cs.length ≤ maxLen) 39 :=
  opT_rows (tr := Rec.tr) (sz := 11) Tryd.underlying39 (by kernel_rfl) (by decide) op_Rec
end Go.Proofs.YtaolgdpkcbfocaaDoorA
