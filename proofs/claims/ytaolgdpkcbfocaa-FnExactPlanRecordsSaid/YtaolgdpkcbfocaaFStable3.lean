/- What is kept of a node: whether it is well-formed; the settings of a node; its first timeout. -/
import Derived.Test.YtaolgdpkcbfocaaFStable2
namespace Go.Proofs.YtaolgdpkcbfocaaA
open Go.Proofs
set_option autoImplicit false
set_option linter.unusedVariables false
set_option linter.unusedSimpArgs false
set_option maxRecDepth 4000
def kn15_0_1 (l : List Ent) : CB := if l.length ≤ 1048576 then some (.c (.own 1 0 l.length), [(1, .arr 87 7 (l.map Ent.tr))], 2) else none
def kn15_0_0 (r0 : List (List Tree)) : CB := (unEnts r0).bind (kn15_0_1)
def kn15_0 : List TV → List (Nat × AObj) → CB
  | [.c (.t (.sl 7 r0))], [] => kn15_0_0 r0
  | _, _ => none
def kn15_1_1 (n : Nat) (k : Int) (l : List Ent) : CB := if n = l.length ∧ 0 ≤ k ∧ k + 7 * (l.length : Nat) ≤ 1099511627776 then some (int (k + 7 * (l.length : Nat)), [(1, .arr 87 7 ((mkEs l.length k).map Ent.tr))], 2) else none
def kn15_1_0 (n : Nat) (k : Int) (r0 : List (List Tree)) : CB := (unEnts r0).bind (kn15_1_1 n k)
def kn15_1 : List TV → List (Nat × AObj) → CB
  | [.c (.own 1 0 n), .c (.t (.v (.int .i64 k)))], [(1, .arr 87 7 r0)] => kn15_1_0 n k r0
  | _, _ => none
def kn15_2_1 (n : Nat) (l : List Ent) : CB := if n = l.length ∧ l.length ≤ 1048576 then some (.c (.own 2 0 l.length), [(1, .arr 87 7 (l.map Ent.tr)), (2, .arr 87 7 (l.map Ent.tr))], 3) else none
def kn15_2_0 (n : Nat) (r0 : List (List Tree)) : CB := (unEnts r0).bind (kn15_2_1 n)
def kn15_2 : List TV → List (Nat × AObj) → CB
  | [.c (.own 1 0 n)], [(1, .arr 87 7 r0)] => kn15_2_0 n r0
  | _, _ => none
def kn15_call (f : FuncId) (args : List TV) (o : List (Nat × AObj)) : CB := if f = 43 then orO (kn15_0 args o) (kn14.callB f args o) else if f = 48 then orO (kn15_1 args o) (kn14.callB f args o) else if f = 55 then orO (kn15_2 args o) (kn14.callB f args o) else kn14.callB f args o
def kn15 : Kn := { call := kn14.call, eqs := eqTys, callB := kn15_call }
attribute [go_sem] kn15_0_0 kn15_0_1 kn15_0 kn15_1_0 kn15_1_1 kn15_1 kn15_2_0 kn15_2_1 kn15_2 kn15_call kn15
theorem kn15_ok : ∀ f args o res o1 n1, kn15_call f args o = some (res, o1, n1) → TC Try.prog f args o (o.length + 1) res o1 n1 := by
  intro f args o res o1 n1 h
  unfold kn15_call at h
  split at h
  · rename_i e; subst e
    have hh := orO_elim h
    clear h
    rcases hh with h | h
    rotate_left
    · exact k14.callB _ _ _ _ _ _ h
    unfold kn15_0 at h
    split at h
    · rename_i r0; unfold kn15_0_0 at h
      have hb0 := Option.bind_eq_some_iff.1 h
      clear h
      obtain ⟨l, e0, h⟩ := hb0
      unfold kn15_0_1 at h
      split at h
      · rename_i hc; cases h; rw [unEnts_ok e0]; exact toEnts_tc l hc
      · cases h
    · cases h
  split at h
  · rename_i e; subst e
    have hh := orO_elim h
    clear h
    rcases hh with h | h
    rotate_left
    · exact k14.callB _ _ _ _ _ _ h
    unfold kn15_1 at h
    split at h
    · rename_i n k r0; unfold kn15_1_0 at h
      have hb0 := Option.bind_eq_some_iff.1 h
      clear h
      obtain ⟨l, e0, h⟩ := hb0
      unfold kn15_1_1 at h
      split at h
      · rename_i hc; cases h; rw [unEnts_ok e0]; obtain ⟨rfl, h1, h2⟩ := hc; exact markEs_tc l k h1 h2
      · cases h
    · cases h
  split at h
  · rename_i e; subst e
    have hh := orO_elim h
    clear h
    rcases hh with h | h
    rotate_left
    · exact k14.callB _ _ _ _ _ _ h
    unfold kn15_2 at h
    split at h
    · rename_i n r0; unfold kn15_2_0 at h
      have hb0 := Option.bind_eq_some_iff.1 h
      clear h
      obtain ⟨l, e0, h⟩ := hb0
      unfold kn15_2_1 at h
      split at h
      · rename_i hc; cases h; rw [unEnts_ok e0]; obtain ⟨rfl, h1⟩ := hc; exact cloneEs_tc l h1
      · cases h
    · cases h
  · exact k14.callB f args o res o1 n1 h
theorem k15 : KnOk Try.prog kn15 := ⟨k14.call, eqTysOk, kn15_ok⟩
set_option maxHeartbeats 8000000 in
theorem szSt_tc (c : Stb) (left : Int) (hl : c.log.length ≤ maxLen) : TC Try.prog 13 [.agg c.cv, int left] [] 1 (int (if szEsF c.log left < 0 then -1 else szEsF c.log left)) [] 1 := by
  refine tc_intro Try.func13 rfl 12 rfl (Nat.le_of_ble_eq_true rfl) (by decide) [4] rfl (by intro id x h; cases h) ?_
  intro w0 E0
  have kOk := k15
  obtain ⟨t, v, l⟩ := c
  have hp : (l.length ≤ maxLen) = True := eq_true hl
  simp only [Stb.cv]
  repeat' (fail_if_success (with_reducible apply amR_id)); first
    | (refine guardP_mk (fun h => ?_) (fun h => ?_) <;> (refine go1 ?_; try simp only [decide_eq_true_eq, decide_eq_false_iff_not, Bool.not_true, Bool.not_false, Bool.not_eq_true', Bool.not_eq_false', beq_iff_eq, bne_iff_ne, beq_eq_false_iff_ne, bne_eq_false_iff_eq, ne_eq, Bool.false_eq_true, reduceCtorEq] at h))
    | (refine hK _ ?_; clear hK K Q1)
    | (refine ⟨by first | omega | (simp only [List.length_map, List.length_append, List.length_cons, List.length_nil, List.length_replicate, List.length_drop, List.length_take]; omega), by unfold maxLen; first | omega | (simp only [List.length_map, List.length_append, List.length_cons, List.length_nil, List.length_replicate, List.length_drop, List.length_take]; omega), ?_⟩)
    | (refine hK _ _ rfl ?_; clear hK K; try refine go1 ?_)
    | (refine am_retP rfl ?_ rfl; first | refine go ?_ | rfl)
    | (refine am_retC [] rfl ?_ rfl rfl; first | refine go ?_ | rfl)
    | (refine wkq ?_)
    | (refine am_rs tabOk kOk rfl fun K Q1 hK => ?_; refine go1 ?_)
    | (refine am_ds mixed tabOk kOk rfl rfl fun K hK => ?_; refine go1 ?_)
    | (refine am_dreg mixed tabOk kOk rfl rfl fun K hK => ?_; refine go1 ?_)
  all_goals (simp (disch := omega) only [if_pos, if_neg]; try rfl)
theorem toSt_tc (c : Stb) (hl : c.log.length ≤ 1048576) : TC Try.prog 15 [.agg c.cv] [] 1 (.agg [ci c.term, ci c.vote, .own 1 0 c.log.length]) [(1, .arr 87 7 (c.log.map Ent.tr))] 2 := by
  refine tc_cell tabOk Try.func15 rfl 15 rfl (Nat.le_of_ble_eq_true rfl) (by decide) [(2, some 55)] rfl (by intro id x h; cases h) ?_
  intro w0 E0
  have kOk := k15
  obtain ⟨t, v, l⟩ := c
  have hp : (l.length ≤ 1048576) = True := eq_true hl
  simp only [Stb.cv]
  refine wk1 ?_
  refine am_retC [(4, 1)] rfl ?_ rfl rfl
  first | refine go ?_ | rfl
set_option maxHeartbeats 8000000 in
theorem eqSt_tc (c d : Stb) (hl : c.log.length ≤ 1048576) : TC Try.prog 18 [.agg c.cv, .agg d.cv] [] 1 (bool (decide (c = d))) [] 1 := by
  refine tc_intro Try.func18 rfl 21 rfl (Nat.le_of_ble_eq_true rfl) (by decide) [4] rfl (by intro id x h; cases h) ?_
  intro w0 E0
  have kOk := k15
  obtain ⟨t, v, l⟩ := c
  obtain ⟨t', v', l'⟩ := d
  have hp : (l.length ≤ 1048576) = True := eq_true hl
  simp only [Stb.cv]
  repeat' (fail_if_success (with_reducible apply amR_id)); first
    | (refine guardP_mk (fun h => ?_) (fun h => ?_) <;> (refine go1 ?_; try simp only [decide_eq_true_eq, decide_eq_false_iff_not, Bool.not_true, Bool.not_false, Bool.not_eq_true', Bool.not_eq_false', beq_iff_eq, bne_iff_ne, beq_eq_false_iff_ne, bne_eq_false_iff_eq, ne_eq, Bool.false_eq_true, reduceCtorEq] at h))
    | (refine hK _ ?_; clear hK K Q1)
    | (refine ⟨by first | omega | (simp only [List.length_map, List.length_append, List.length_cons, List.length_nil, List.length_replicate, List.length_drop, List.length_take]; omega), by unfold maxLen; first | omega | (simp only [List.length_map, List.length_append, List.length_cons, List.length_nil, List.length_replicate, List.length_drop, List.length_take]; omega), ?_⟩)
    | (refine hK _ _ rfl ?_; clear hK K; try refine go1 ?_)
    | (refine am_retP rfl ?_ rfl; first | refine go ?_ | rfl)
    | (refine am_retC [] rfl ?_ rfl rfl; first | refine go ?_ | rfl)
    | (refine wkq ?_)
    | (refine am_rs tabOk kOk rfl fun K Q1 hK => ?_; refine go1 ?_)
    | (refine am_ds mixed tabOk kOk rfl rfl fun K hK => ?_; refine go1 ?_)
    | (refine am_dreg mixed tabOk kOk rfl rfl fun K hK => ?_; refine go1 ?_)
  all_goals simp_all
theorem markSt_tc (t v : Int) (l : List Ent) (k : Int) (h0 : 0 ≤ k) (hk : k + 7 * (l.length : Nat) ≤ 1099511627776) : TC Try.prog 19 [.agg [ci t, ci v, .own 1 0 l.length], int k] [(1, .arr 87 7 (l.map Ent.tr))] 2 (int (k + 7 * (l.length : Nat))) [(1, .arr 87 7 ((mkEs l.length k).map Ent.tr))] 2 := by
  refine tc_intro Try.func19 rfl 10 rfl (Nat.le_of_ble_eq_true rfl) (by decide) [4] rfl dom1 ?_
  intro w0 E0
  have kOk := k15
  have hp : ((0 ≤ k) = True) ∧ ((k + 7 * (l.length : Nat) ≤ 1099511627776) = True) := ⟨eq_true h0, eq_true hk⟩
  refine wk1 ?_
  refine am_retB [(1, 1)] rfl ?_ ?_ rfl <;> first | refine go ?_ | rfl
def hardF (t v : Int) : Bool := decide ((0 ≤ t ∧ t ≤ 1073741824) ∧ (0 ≤ v ∧ v ≤ 7) ∧ (t = 0 → v = 0))
theorem hard_tc (t v : Int) : TC Try.prog 74 [int t, int v] [] 1 (bool (hardF t v)) [] 1 := by
  refine tc_intro Try.func74 rfl 19 rfl (Nat.le_of_ble_eq_true rfl) (by decide) [4] rfl (by intro id x h; cases h) ?_
  intro w0 E0
  have kOk := k15
  repeat' (fail_if_success (with_reducible apply amR_id)); first
    | (refine guardP_mk (fun h => ?_) (fun h => ?_) <;> (refine go ?_; try simp only [decide_eq_true_eq, decide_eq_false_iff_not, Bool.not_true, Bool.not_false, Bool.not_eq_true', Bool.not_eq_false', beq_iff_eq, bne_iff_ne, beq_eq_false_iff_ne, bne_eq_false_iff_eq, ne_eq, Bool.false_eq_true, reduceCtorEq] at h))
    | (refine hK _ ?_; clear hK K Q1)
    | (refine ⟨by first | omega | (simp only [List.length_map, List.length_append, List.length_cons, List.length_nil, List.length_replicate, List.length_drop, List.length_take]; omega), by unfold maxLen; first | omega | (simp only [List.length_map, List.length_append, List.length_cons, List.length_nil, List.length_replicate, List.length_drop, List.length_take]; omega), ?_⟩)
    | (refine hK _ _ rfl ?_; clear hK K; try refine go ?_)
    | (refine am_retP rfl ?_ rfl; first | refine go ?_ | rfl)
    | (refine am_retC [] rfl ?_ rfl rfl; first | refine go ?_ | rfl)
    | (refine wkp ?_)
    | (refine am_rs tabOk kOk rfl fun K Q1 hK => ?_; refine go ?_)
    | (refine am_ds mixed tabOk kOk rfl rfl fun K hK => ?_; refine go ?_)
    | (refine am_dreg mixed tabOk kOk rfl rfl fun K hK => ?_; refine go ?_)
  all_goals (simp only [TV.c.injEq, CV.t.injEq, Tree.v.injEq, Value.bool.injEq]; rw [Bool.eq_iff_iff]; simp only [hardF, inB, decide_eq_true_eq, decide_eq_false_iff_not, beq_iff_eq, Bool.false_eq_true, false_iff, true_iff] at *; omega)
def kn16_0_0 (t : Int) (v : Int) : Option TV := some (bool (hardF t v))
def kn16_0 : List TV → Option TV
  | [.c (.t (.v (.int .i64 t))), .c (.t (.v (.int .i64 v)))] => kn16_0_0 t v
  | _ => none
def kn16_1_1 (n : Int) (c : Stb) : Option TV := if c.log.length ≤ maxLen then some (int (if szEsF c.log n < 0 then -1 else szEsF c.log n)) else none
def kn16_1_0 (n : Int) (r0 : List CV) : Option TV := (unStb r0).bind (kn16_1_1 n)
def kn16_1 : List TV → Option TV
  | [.agg r0, .c (.t (.v (.int .i64 n)))] => kn16_1_0 n r0
  | _ => none
def kn16_2_2 (c : Stb) (d : Stb) : Option TV := if c.log.length ≤ 1048576 then some (bool (decide (c = d))) else none
def kn16_2_1 (r1 : List CV) (c : Stb) : Option TV := (unStb r1).bind (kn16_2_2 c)
def kn16_2_0 (r0 : List CV) (r1 : List CV) : Option TV := (unStb r0).bind (kn16_2_1 r1)
def kn16_2 : List TV → Option TV
  | [.agg r0, .agg r1] => kn16_2_0 r0 r1
  | _ => none
def kn16_call (f : FuncId) (args : List TV) : Option TV := if f = 74 then orO (kn16_0 args) (kn15.call f args) else if f = 13 then orO (kn16_1 args) (kn15.call f args) else if f = 18 then orO (kn16_2 args) (kn15.call f args) else kn15.call f args
def kn16 : Kn := { call := kn16_call, eqs := eqTys, callB := kn15.callB }
attribute [go_sem] kn16_0_0 kn16_0 kn16_1_0 kn16_1_1 kn16_1 kn16_2_0 kn16_2_1 kn16_2_2 kn16_2 kn16_call kn16
theorem kn16_ok : ∀ f args res, kn16_call f args = some res → TC Try.prog f args [] 1 res [] 1 := by
  intro f args res h
  unfold kn16_call at h
  split at h
  · rename_i e; subst e
    have hh := orO_elim h
    clear h
    rcases hh with h | h
    rotate_left
    · exact k15.call _ _ _ h
    unfold kn16_0 at h
    split at h
    · rename_i t v; unfold kn16_0_0 at h
      cases h; exact hard_tc t v
    · cases h
  split at h
  · rename_i e; subst e
    have hh := orO_elim h
    clear h
    rcases hh with h | h
    rotate_left
    · exact k15.call _ _ _ h
    unfold kn16_1 at h
    split at h
    · rename_i r0 n; unfold kn16_1_0 at h
      obtain ⟨c, e0, h⟩ := Option.bind_eq_some_iff.1 h
      unfold kn16_1_1 at h
      split at h
      · rename_i hc; cases h; rw [unStb_ok e0]; exact szSt_tc c n hc
      · cases h
    · cases h
  split at h
  · rename_i e; subst e
    have hh := orO_elim h
    clear h
    rcases hh with h | h
    rotate_left
    · exact k15.call _ _ _ h
    unfold kn16_2 at h
    split at h
    · rename_i r0 r1; unfold kn16_2_0 at h
      obtain ⟨c, e0, h⟩ := Option.bind_eq_some_iff.1 h
      unfold kn16_2_1 at h
      obtain ⟨d, e1, h⟩ := Option.bind_eq_some_iff.1 h
      unfold kn16_2_2 at h
      split at h
      · rename_i hc; cases h; rw [unStb_ok e0, unStb_ok e1]; exact eqSt_tc c d hc
      · cases h
    · cases h
  · exact k15.call f args res h
theorem k16 : KnOk Try.prog kn16 := ⟨kn16_ok, eqTysOk, k15.callB⟩
def stF (c : Stb) : Bool := hardF c.term c.vote && decide (c.log.length ≤ 4096) && risF c.log 1 c.term
theorem stI_tc (c : Stb) (hl : c.log.length ≤ 1048576) : TC Try.prog 44 [.agg c.cv] [] 1 (bool (stF c)) [] 1 := by
  refine tc_intro Try.func44 rfl 21 rfl (Nat.le_of_ble_eq_true rfl) (by decide) [2] rfl (by intro id x h; cases h) ?_
  intro w0 E0
  have kOk := k16
  obtain ⟨t, v, l⟩ := c
  have hp : ((l.length ≤ 1048576) = True) ∧ (l.map Ent.tr).length = l.length := ⟨eq_true hl, by simp⟩
  simp only [Stb.cv]
  repeat' (fail_if_success (with_reducible apply amR_id)); first
    | (refine guardP_mk (fun h => ?_) (fun h => ?_) <;> (refine go1 ?_; try simp only [decide_eq_true_eq, decide_eq_false_iff_not, Bool.not_true, Bool.not_false, Bool.not_eq_true', Bool.not_eq_false', beq_iff_eq, bne_iff_ne, beq_eq_false_iff_ne, bne_eq_false_iff_eq, ne_eq, Bool.false_eq_true, reduceCtorEq] at h))
    | (refine hK _ ?_; clear hK K Q1)
    | (refine ⟨by first | omega | (simp only [List.length_map, List.length_append, List.length_cons, List.length_nil, List.length_replicate, List.length_drop, List.length_take]; omega), by unfold maxLen; first | omega | (simp only [List.length_map, List.length_append, List.length_cons, List.length_nil, List.length_replicate, List.length_drop, List.length_take]; omega), ?_⟩)
    | (refine hK _ _ rfl ?_; clear hK K; try refine go1 ?_)
    | (refine am_retP rfl ?_ rfl; first | refine go ?_ | rfl)
    | (refine am_retC [] rfl ?_ rfl rfl; first | refine go ?_ | rfl)
    | (refine wkq ?_)
    | (refine am_rs tabOk kOk rfl fun K Q1 hK => ?_; refine go1 ?_)
    | (refine am_ds mixed tabOk kOk rfl rfl fun K hK => ?_; refine go1 ?_)
    | (refine am_dreg mixed tabOk kOk rfl rfl fun K hK => ?_; refine go1 ?_)
  all_goals (clear hp; simp only [TV.c.injEq, CV.t.injEq, Tree.v.injEq, Value.bool.injEq, stF] at *; grind)
theorem stS_tc (c : Stb) (hl : c.log.length ≤ 1048576) : TC Try.prog 41 [.agg c.cv] [] 1 (bool (stF c)) [] 1 := by
  refine tc_intro Try.func41 rfl 34 rfl (Nat.le_of_ble_eq_true rfl) (by decide) [2] rfl (by intro id x h; cases h) ?_
  intro w0 E0
  have kOk := k16
  obtain ⟨t, v, l⟩ := c
  have hp : ((l.length ≤ 1048576) = True) ∧ (l.map Ent.tr).length = l.length := ⟨eq_true hl, by simp⟩
  simp only [Stb.cv]
  repeat' (fail_if_success (with_reducible apply amR_id)); first
    | (refine guardP_mk (fun h => ?_) (fun h => ?_) <;> (refine go1 ?_; try simp only [decide_eq_true_eq, decide_eq_false_iff_not, Bool.not_true, Bool.not_false, Bool.not_eq_true', Bool.not_eq_false', beq_iff_eq, bne_iff_ne, beq_eq_false_iff_ne, bne_eq_false_iff_eq, ne_eq, Bool.false_eq_true, reduceCtorEq] at h))
    | (refine hK _ ?_; clear hK K Q1)
    | (refine ⟨by first | omega | (simp only [List.length_map, List.length_append, List.length_cons, List.length_nil, List.length_replicate, List.length_drop, List.length_take]; omega), by unfold maxLen; first | omega | (simp only [List.length_map, List.length_append, List.length_cons, List.length_nil, List.length_replicate, List.length_drop, List.length_take]; omega), ?_⟩)
    | (refine hK _ _ rfl ?_; clear hK K; try refine go1 ?_)
    | (refine am_retP rfl ?_ rfl; first | refine go ?_ | rfl)
    | (refine am_retC [] rfl ?_ rfl rfl; first | refine go ?_ | rfl)
    | (refine wkq ?_)
    | (refine am_rs tabOk kOk rfl fun K Q1 hK => ?_; refine go1 ?_)
    | (refine am_ds mixed tabOk kOk rfl rfl fun K hK => ?_; refine go1 ?_)
    | (refine am_dreg mixed tabOk kOk rfl rfl fun K hK => ?_; refine go1 ?_)
  all_goals (clear hp; simp only [TV.c.injEq, CV.t.injEq, Tree.v.injEq, Value.bool.injEq, stF, hardF, inB] at *; grind)
def conF (id size elect beat : Int) : Bool := decide ((size = 3 ∨ size = 5 ∨ size = 7) ∧ (1 ≤ id ∧ id ≤ size) ∧ (2 ≤ elect ∧ elect ≤ 1000) ∧ (1 ≤ beat ∧ beat ≤ elect))
theorem conI_tc (a b c d : Int) : TC Try.prog 54 [int a, int b, int c, int d] [] 1 (bool (conF a b c d)) [] 1 := by
  refine tc_intro Try.func54 rfl 25 rfl (Nat.le_of_ble_eq_true rfl) (by decide) [8] rfl (by intro id x h; cases h) ?_
  intro w0 E0
  have kOk := k16
  repeat' (fail_if_success (with_reducible apply amR_id)); first
    | (refine guardP_mk (fun h => ?_) (fun h => ?_) <;> (refine go ?_; try simp only [decide_eq_true_eq, decide_eq_false_iff_not, Bool.not_true, Bool.not_false, Bool.not_eq_true', Bool.not_eq_false', beq_iff_eq, bne_iff_ne, beq_eq_false_iff_ne, bne_eq_false_iff_eq, ne_eq, Bool.false_eq_true, reduceCtorEq] at h))
    | (refine hK _ ?_; clear hK K Q1)
    | (refine ⟨by first | omega | (simp only [List.length_map, List.length_append, List.length_cons, List.length_nil, List.length_replicate, List.length_drop, List.length_take]; omega), by unfold maxLen; first | omega | (simp only [List.length_map, List.length_append, List.length_cons, List.length_nil, List.length_replicate, List.length_drop, List.length_take]; omega), ?_⟩)
    | (refine hK _ _ rfl ?_; clear hK K; try refine go ?_)
    | (refine am_retP rfl ?_ rfl; first | refine go ?_ | rfl)
    | (refine am_retC [] rfl ?_ rfl rfl; first | refine go ?_ | rfl)
    | (refine wkp ?_)
    | (refine am_rs tabOk kOk rfl fun K Q1 hK => ?_; refine go ?_)
    | (refine am_ds mixed tabOk kOk rfl rfl fun K hK => ?_; refine go ?_)
    | (refine am_dreg mixed tabOk kOk rfl rfl fun K hK => ?_; refine go ?_)
  all_goals (simp only [TV.c.injEq, CV.t.injEq, Tree.v.injEq, Value.bool.injEq]; rw [Bool.eq_iff_iff]; simp only [conF, szF, inB, decide_eq_true_eq, decide_eq_false_iff_not, beq_iff_eq, Bool.false_eq_true, false_iff, true_iff] at *; omega)
theorem conS_tc (a b c d : Int) : TC Try.prog 51 [int a, int b, int c, int d] [] 1 (bool (conF a b c d)) [] 1 := by
  refine tc_intro Try.func51 rfl 25 rfl (Nat.le_of_ble_eq_true rfl) (by decide) [8] rfl (by intro id x h; cases h) ?_
  intro w0 E0
  have kOk := k16
  repeat' (fail_if_success (with_reducible apply amR_id)); first
    | (refine guardP_mk (fun h => ?_) (fun h => ?_) <;> (refine go ?_; try simp only [decide_eq_true_eq, decide_eq_false_iff_not, Bool.not_true, Bool.not_false, Bool.not_eq_true', Bool.not_eq_false', beq_iff_eq, bne_iff_ne, beq_eq_false_iff_ne, bne_eq_false_iff_eq, ne_eq, Bool.false_eq_true, reduceCtorEq] at h))
    | (refine hK _ ?_; clear hK K Q1)
    | (refine ⟨by first | omega | (simp only [List.length_map, List.length_append, List.length_cons, List.length_nil, List.length_replicate, List.length_drop, List.length_take]; omega), by unfold maxLen; first | omega | (simp only [List.length_map, List.length_append, List.length_cons, List.length_nil, List.length_replicate, List.length_drop, List.length_take]; omega), ?_⟩)
    | (refine hK _ _ rfl ?_; clear hK K; try refine go ?_)
    | (refine am_retP rfl ?_ rfl; first | refine go ?_ | rfl)
    | (refine am_retC [] rfl ?_ rfl rfl; first | refine go ?_ | rfl)
    | (refine wkp ?_)
    | (refine am_rs tabOk kOk rfl fun K Q1 hK => ?_; refine go ?_)
    | (refine am_ds mixed tabOk kOk rfl rfl fun K hK => ?_; refine go ?_)
    | (refine am_dreg mixed tabOk kOk rfl rfl fun K hK => ?_; refine go ?_)
  all_goals (simp only [TV.c.injEq, CV.t.injEq, Tree.v.injEq, Value.bool.injEq]; rw [Bool.eq_iff_iff]; simp only [conF, szF, inB, decide_eq_true_eq, decide_eq_false_iff_not, beq_iff_eq, Bool.false_eq_true, false_iff, true_iff] at *; omega)
def modF (x n : Int) : Int := Int.emod x n
theorem tmod_pos {x n : Int} (h : 1 ≤ n) : -n < Int.tmod x n ∧ Int.tmod x n < n ∧ Int.emod x n = if Int.tmod x n < 0 then Int.tmod x n + n else Int.tmod x n := by
  have h2 : Int.emod x n = x % n := rfl
  have h3 := Int.emod_nonneg x (show n ≠ 0 by omega)
  have h4 := Int.emod_lt_of_pos x (show 0 < n by omega)
  have h5 := Int.tmod_eq_emod (a := x) (b := n)
  rw [h2]
  by_cases hc : 0 ≤ x ∨ n ∣ x
  · rw [if_pos hc] at h5
    have h6 : Int.tmod x n = x % n := by simpa using h5
    rw [h6]
    exact ⟨by omega, h4, by rw [if_neg (by omega)]⟩
  · rw [if_neg hc] at h5
    have he : x % n ≠ 0 := fun e => hc (.inr (Int.dvd_of_emod_eq_zero e))
    have hn : (n.natAbs : Int) = n := by omega
    rw [hn] at h5
    rw [h5]
    generalize x % n = e at *
    exact ⟨by omega, by omega, by rw [if_pos (by omega)]; omega⟩
theorem modEq1 {x n : Int} (h : 1 ≤ n) (h2 : n ≤ 1000) : Int.tmod (IntKind.i64.wrap (Int.tmod x n + n)) n = Int.emod x n := by
  obtain ⟨h3, h4, h5⟩ := tmod_pos (x := x) h
  have h6 : IntKind.i64.wrap (Int.tmod x n + n) = Int.tmod x n + n := by rw [IntKind.wrap_i64]; omega
  rw [h6, h5, Int.tmod_eq_emod_of_nonneg (by omega)]
  split
  · rw [Int.emod_eq_of_lt (by omega) (by omega)]
  · rw [Int.add_emod_right, Int.emod_eq_of_lt (by omega) (by omega)]
theorem modI_tc (x n : Int) (h : 1 ≤ n) (h2 : n ≤ 1000) : TC Try.prog 80 [int x, int n] [] 1 (int (modF x n)) [] 1 := by
  refine tc_intro Try.func80 rfl 12 rfl (Nat.le_of_ble_eq_true rfl) (by decide) [4] rfl (by intro id x h; cases h) ?_
  intro w0 E0
  have kOk := k16
  have hp : (n = 0) = False := eq_false (by omega)
  repeat' (fail_if_success (with_reducible apply amR_id)); first
    | (refine guardP_mk (fun h => ?_) (fun h => ?_) <;> (refine go1 ?_; try simp only [decide_eq_true_eq, decide_eq_false_iff_not, Bool.not_true, Bool.not_false, Bool.not_eq_true', Bool.not_eq_false', beq_iff_eq, bne_iff_ne, beq_eq_false_iff_ne, bne_eq_false_iff_eq, ne_eq, Bool.false_eq_true, reduceCtorEq] at h))
    | (refine hK _ ?_; clear hK K Q1)
    | (refine ⟨by first | omega | (simp only [List.length_map, List.length_append, List.length_cons, List.length_nil, List.length_replicate, List.length_drop, List.length_take]; omega), by unfold maxLen; first | omega | (simp only [List.length_map, List.length_append, List.length_cons, List.length_nil, List.length_replicate, List.length_drop, List.length_take]; omega), ?_⟩)
    | (refine hK _ _ rfl ?_; clear hK K; try refine go1 ?_)
    | (refine am_retP rfl ?_ rfl; first | refine go ?_ | rfl)
    | (refine am_retC [] rfl ?_ rfl rfl; first | refine go ?_ | rfl)
    | (refine wkq ?_)
    | (refine am_rs tabOk kOk rfl fun K Q1 hK => ?_; refine go1 ?_)
    | (refine am_ds mixed tabOk kOk rfl rfl fun K hK => ?_; refine go1 ?_)
    | (refine am_dreg mixed tabOk kOk rfl rfl fun K hK => ?_; refine go1 ?_)
  all_goals (simp only [TV.c.injEq, CV.t.injEq, Tree.v.injEq, Value.int.injEq, true_and]; exact modEq1 ‹1 ≤ n› h2)
theorem modS_tc (x n : Int) (h : 1 ≤ n) (h2 : n ≤ 1000) : TC Try.prog 79 [int x, int n] [] 1 (int (modF x n)) [] 1 := by
  refine tc_intro Try.func79 rfl 15 rfl (Nat.le_of_ble_eq_true rfl) (by decide) [4] rfl (by intro id x h; cases h) ?_
  intro w0 E0
  have kOk := k16
  have hp : (n = 0) = False := eq_false (by omega)
  repeat' (fail_if_success (with_reducible apply amR_id)); first
    | (refine guardP_mk (fun h => ?_) (fun h => ?_) <;> (refine go1 ?_; try simp only [decide_eq_true_eq, decide_eq_false_iff_not, Bool.not_true, Bool.not_false, Bool.not_eq_true', Bool.not_eq_false', beq_iff_eq, bne_iff_ne, beq_eq_false_iff_ne, bne_eq_false_iff_eq, ne_eq, Bool.false_eq_true, reduceCtorEq] at h))
    | (refine hK _ ?_; clear hK K Q1)
    | (refine ⟨by first | omega | (simp only [List.length_map, List.length_append, List.length_cons, List.length_nil, List.length_replicate, List.length_drop, List.length_take]; omega), by unfold maxLen; first | omega | (simp only [List.length_map, List.length_append, List.length_cons, List.length_nil, List.length_replicate, List.length_drop, List.length_take]; omega), ?_⟩)
    | (refine hK _ _ rfl ?_; clear hK K; try refine go1 ?_)
    | (refine am_retP rfl ?_ rfl; first | refine go ?_ | rfl)
    | (refine am_retC [] rfl ?_ rfl rfl; first | refine go ?_ | rfl)
    | (refine wkq ?_)
    | (refine am_rs tabOk kOk rfl fun K Q1 hK => ?_; refine go1 ?_)
    | (refine am_ds mixed tabOk kOk rfl rfl fun K hK => ?_; refine go1 ?_)
    | (refine am_dreg mixed tabOk kOk rfl rfl fun K hK => ?_; refine go1 ?_)
  all_goals (simp only [TV.c.injEq, CV.t.injEq, Tree.v.injEq, Value.int.injEq, true_and, modF]; have h9 := tmod_pos (x := x) ‹1 ≤ n›; rw [h9.2.2])
  · rw [if_pos (by assumption), wrapN (by omega) (by omega)]
  · rw [if_neg (by assumption)]
def kn17_0_1 (c : Stb) : Option TV := if c.log.length ≤ 1048576 then some (bool (stF c)) else none
def kn17_0_0 (r0 : List CV) : Option TV := (unStb r0).bind (kn17_0_1)
def kn17_0 : List TV → Option TV
  | [.agg r0] => kn17_0_0 r0
  | _ => none
def kn17_1_1 (c : Stb) : Option TV := if c.log.length ≤ 1048576 then some (bool (stF c)) else none
def kn17_1_0 (r0 : List CV) : Option TV := (unStb r0).bind (kn17_1_1)
def kn17_1 : List TV → Option TV
  | [.agg r0] => kn17_1_0 r0
  | _ => none
def kn17_2_0 (a : Int) (b : Int) (c : Int) (d : Int) : Option TV := some (bool (conF a b c d))
def kn17_2 : List TV → Option TV
  | [.c (.t (.v (.int .i64 a))), .c (.t (.v (.int .i64 b))), .c (.t (.v (.int .i64 c))), .c (.t (.v (.int .i64 d)))] => kn17_2_0 a b c d
  | _ => none
def kn17_3_0 (a : Int) (b : Int) (c : Int) (d : Int) : Option TV := some (bool (conF a b c d))
def kn17_3 : List TV → Option TV
  | [.c (.t (.v (.int .i64 a))), .c (.t (.v (.int .i64 b))), .c (.t (.v (.int .i64 c))), .c (.t (.v (.int .i64 d)))] => kn17_3_0 a b c d
  | _ => none
def kn17_4_0 (x : Int) (n : Int) : Option TV := if 1 ≤ n ∧ n ≤ 1000 then some (int (modF x n)) else none
def kn17_4 : List TV → Option TV
  | [.c (.t (.v (.int .i64 x))), .c (.t (.v (.int .i64 n)))] => kn17_4_0 x n
  | _ => none
def kn17_5_0 (x : Int) (n : Int) : Option TV := if 1 ≤ n ∧ n ≤ 1000 then some (int (modF x n)) else none
def kn17_5 : List TV → Option TV
  | [.c (.t (.v (.int .i64 x))), .c (.t (.v (.int .i64 n)))] => kn17_5_0 x n
  | _ => none
def kn17_call (f : FuncId) (args : List TV) : Option TV := if f = 44 then orO (kn17_0 args) (kn16.call f args) else if f = 41 then orO (kn17_1 args) (kn16.call f args) else if f = 54 then orO (kn17_2 args) (kn16.call f args) else if f = 51 then orO (kn17_3 args) (kn16.call f args) else if f = 80 then orO (kn17_4 args) (kn16.call f args) else if f = 79 then orO (kn17_5 args) (kn16.call f args) else kn16.call f args
def kn17 : Kn := { call := kn17_call, eqs := eqTys, callB := kn16.callB }
attribute [go_sem] kn17_0_0 kn17_0_1 kn17_0 kn17_1_0 kn17_1_1 kn17_1 kn17_2_0 kn17_2 kn17_3_0 kn17_3 kn17_4_0 kn17_4 kn17_5_0 kn17_5 kn17_call kn17
theorem kn17_ok : ∀ f args res, kn17_call f args = some res → TC Try.prog f args [] 1 res [] 1 := by
  intro f args res h
  unfold kn17_call at h
  split at h
  · rename_i e; subst e
    have hh := orO_elim h
    clear h
    rcases hh with h | h
    rotate_left
    · exact k16.call _ _ _ h
    unfold kn17_0 at h
    split at h
    · rename_i r0; unfold kn17_0_0 at h
      obtain ⟨c, e0, h⟩ := Option.bind_eq_some_iff.1 h
      unfold kn17_0_1 at h
      split at h
      · rename_i hc; cases h; rw [unStb_ok e0]; exact stI_tc c hc
      · cases h
    · cases h
  split at h
  · rename_i e; subst e
    have hh := orO_elim h
    clear h
    rcases hh with h | h
    rotate_left
    · exact k16.call _ _ _ h
    unfold kn17_1 at h
    split at h
    · rename_i r0; unfold kn17_1_0 at h
      obtain ⟨c, e0, h⟩ := Option.bind_eq_some_iff.1 h
      unfold kn17_1_1 at h
      split at h
      · rename_i hc; cases h; rw [unStb_ok e0]; exact stS_tc c hc
      · cases h
    · cases h
  split at h
  · rename_i e; subst e
    have hh := orO_elim h
    clear h
    rcases hh with h | h
    rotate_left
    · exact k16.call _ _ _ h
    unfold kn17_2 at h
    split at h
    · rename_i a b c d; unfold kn17_2_0 at h
      cases h; exact conI_tc a b c d
    · cases h
  split at h
  · rename_i e; subst e
    have hh := orO_elim h
    clear h
    rcases hh with h | h
    rotate_left
    · exact k16.call _ _ _ h
    unfold kn17_3 at h
    split at h
    · rename_i a b c d; unfold kn17_3_0 at h
      cases h; exact conS_tc a b c d
    · cases h
  split at h
  · rename_i e; subst e
    have hh := orO_elim h
    clear h
    rcases hh with h | h
    rotate_left
    · exact k16.call _ _ _ h
    unfold kn17_4 at h
    split at h
    · rename_i x n; unfold kn17_4_0 at h
      split at h
      · rename_i hc; cases h; exact modI_tc x n hc.1 hc.2
      · cases h
    · cases h
  split at h
  · rename_i e; subst e
    have hh := orO_elim h
    clear h
    rcases hh with h | h
    rotate_left
    · exact k16.call _ _ _ h
    unfold kn17_5 at h
    split at h
    · rename_i x n; unfold kn17_5_0 at h
      split at h
      · rename_i hc; cases h; exact modS_tc x n hc.1 hc.2
      · cases h
    · cases h
  · exact k16.call f args res h
theorem k17 : KnOk Try.prog kn17 := ⟨kn17_ok, eqTysOk, k16.callB⟩
def toF (elect draw : Int) : Int := if 1 ≤ elect ∧ elect ≤ 1000 then IntKind.i64.wrap (elect + modF draw elect) else 0
theorem toI_tc (e d : Int) : TC Try.prog 56 [int e, int d] [] 1 (int (toF e d)) [] 1 := by
  refine tc_intro Try.func56 rfl 13 rfl (Nat.le_of_ble_eq_true rfl) (by decide) [4] rfl (by intro id x h; cases h) ?_
  intro w0 E0
  have kOk := k17
  by_cases h : 1 ≤ e ∧ e ≤ 1000
  · have hp : (1 ≤ e) = True ∧ (e ≤ 1000) = True := ⟨eq_true h.1, eq_true h.2⟩
    simp only [toF, if_pos h]
    repeat' (fail_if_success (with_reducible apply amR_id)); first
      | (refine guardP_mk (fun h => ?_) (fun h => ?_) <;> (refine go1 ?_; try simp only [decide_eq_true_eq, decide_eq_false_iff_not, Bool.not_true, Bool.not_false, Bool.not_eq_true', Bool.not_eq_false', beq_iff_eq, bne_iff_ne, beq_eq_false_iff_ne, bne_eq_false_iff_eq, ne_eq, Bool.false_eq_true, reduceCtorEq] at h))
      | (refine hK _ ?_; clear hK K Q1)
      | (refine ⟨by first | omega | (simp only [List.length_map, List.length_append, List.length_cons, List.length_nil, List.length_replicate, List.length_drop, List.length_take]; omega), by unfold maxLen; first | omega | (simp only [List.length_map, List.length_append, List.length_cons, List.length_nil, List.length_replicate, List.length_drop, List.length_take]; omega), ?_⟩)
      | (refine hK _ _ rfl ?_; clear hK K; try refine go1 ?_)
      | (refine am_retP rfl ?_ rfl; first | refine go ?_ | rfl)
      | (refine am_retC [] rfl ?_ rfl rfl; first | refine go ?_ | rfl)
      | (refine wkq ?_)
      | (refine am_rs tabOk kOk rfl fun K Q1 hK => ?_; refine go1 ?_)
      | (refine am_ds mixed tabOk kOk rfl rfl fun K hK => ?_; refine go1 ?_)
      | (refine am_dreg mixed tabOk kOk rfl rfl fun K hK => ?_; refine go1 ?_)
    all_goals first | rfl | (simp_all [inB]; done)
  · simp only [toF, if_neg h]
    repeat' (fail_if_success (with_reducible apply amR_id)); first
      | (refine guardP_mk (fun h => ?_) (fun h => ?_) <;> (refine go ?_; try simp only [decide_eq_true_eq, decide_eq_false_iff_not, Bool.not_true, Bool.not_false, Bool.not_eq_true', Bool.not_eq_false', beq_iff_eq, bne_iff_ne, beq_eq_false_iff_ne, bne_eq_false_iff_eq, ne_eq, Bool.false_eq_true, reduceCtorEq] at h))
      | (refine hK _ ?_; clear hK K Q1)
      | (refine ⟨by first | omega | (simp only [List.length_map, List.length_append, List.length_cons, List.length_nil, List.length_replicate, List.length_drop, List.length_take]; omega), by unfold maxLen; first | omega | (simp only [List.length_map, List.length_append, List.length_cons, List.length_nil, List.length_replicate, List.length_drop, List.length_take]; omega), ?_⟩)
      | (refine hK _ _ rfl ?_; clear hK K; try refine go ?_)
      | (refine am_retP rfl ?_ rfl; first | refine go ?_ | rfl)
      | (refine am_retC [] rfl ?_ rfl rfl; first | refine go ?_ | rfl)
      | (refine wkp ?_)
      | (refine am_rs tabOk kOk rfl fun K Q1 hK => ?_; refine go ?_)
      | (refine am_ds mixed tabOk kOk rfl rfl fun K hK => ?_; refine go ?_)
      | (refine am_dreg mixed tabOk kOk rfl rfl fun K hK => ?_; refine go ?_)
    all_goals first | rfl | (simp_all [inB]; done) | (simp only [inB, decide_eq_true_eq] at *; contradiction)
theorem toS_tc (e d : Int) : TC Try.prog 53 [int e, int d] [] 1 (int (toF e d)) [] 1 := by
  refine tc_intro Try.func53 rfl 13 rfl (Nat.le_of_ble_eq_true rfl) (by decide) [4] rfl (by intro id x h; cases h) ?_
  intro w0 E0
  have kOk := k17
  by_cases h : 1 ≤ e ∧ e ≤ 1000
  · have hp : (1 ≤ e) = True ∧ (e ≤ 1000) = True := ⟨eq_true h.1, eq_true h.2⟩
    simp only [toF, if_pos h]
    repeat' (fail_if_success (with_reducible apply amR_id)); first
      | (refine guardP_mk (fun h => ?_) (fun h => ?_) <;> (refine go1 ?_; try simp only [decide_eq_true_eq, decide_eq_false_iff_not, Bool.not_true, Bool.not_false, Bool.not_eq_true', Bool.not_eq_false', beq_iff_eq, bne_iff_ne, beq_eq_false_iff_ne, bne_eq_false_iff_eq, ne_eq, Bool.false_eq_true, reduceCtorEq] at h))
      | (refine hK _ ?_; clear hK K Q1)
      | (refine ⟨by first | omega | (simp only [List.length_map, List.length_append, List.length_cons, List.length_nil, List.length_replicate, List.length_drop, List.length_take]; omega), by unfold maxLen; first | omega | (simp only [List.length_map, List.length_append, List.length_cons, List.length_nil, List.length_replicate, List.length_drop, List.length_take]; omega), ?_⟩)
      | (refine hK _ _ rfl ?_; clear hK K; try refine go1 ?_)
      | (refine am_retP rfl ?_ rfl; first | refine go ?_ | rfl)
      | (refine am_retC [] rfl ?_ rfl rfl; first | refine go ?_ | rfl)
      | (refine wkq ?_)
      | (refine am_rs tabOk kOk rfl fun K Q1 hK => ?_; refine go1 ?_)
      | (refine am_ds mixed tabOk kOk rfl rfl fun K hK => ?_; refine go1 ?_)
      | (refine am_dreg mixed tabOk kOk rfl rfl fun K hK => ?_; refine go1 ?_)
    all_goals first | rfl | (simp_all [inB]; done)
  · simp only [toF, if_neg h]
    repeat' (fail_if_success (with_reducible apply amR_id)); first
      | (refine guardP_mk (fun h => ?_) (fun h => ?_) <;> (refine go ?_; try simp only [decide_eq_true_eq, decide_eq_false_iff_not, Bool.not_true, Bool.not_false, Bool.not_eq_true', Bool.not_eq_false', beq_iff_eq, bne_iff_ne, beq_eq_false_iff_ne, bne_eq_false_iff_eq, ne_eq, Bool.false_eq_true, reduceCtorEq] at h))
      | (refine hK _ ?_; clear hK K Q1)
      | (refine ⟨by first | omega | (simp only [List.length_map, List.length_append, List.length_cons, List.length_nil, List.length_replicate, List.length_drop, List.length_take]; omega), by unfold maxLen; first | omega | (simp only [List.length_map, List.length_append, List.length_cons, List.length_nil, List.length_replicate, List.length_drop, List.length_take]; omega), ?_⟩)
      | (refine hK _ _ rfl ?_; clear hK K; try refine go ?_)
      | (refine am_retP rfl ?_ rfl; first | refine go ?_ | rfl)
      | (refine am_retC [] rfl ?_ rfl rfl; first | refine go ?_ | rfl)
      | (refine wkp ?_)
      | (refine am_rs tabOk kOk rfl fun K Q1 hK => ?_; refine go ?_)
      | (refine am_ds mixed tabOk kOk rfl rfl fun K hK => ?_; refine go ?_)
      | (refine am_dreg mixed tabOk kOk rfl rfl fun K hK => ?_; refine go ?_)
    all_goals first | rfl | (simp_all [inB]; done) | (simp only [inB, decide_eq_true_eq] at *; contradiction)
end Go.Proofs.YtaolgdpkcbfocaaA
