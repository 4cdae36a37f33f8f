/- Commands carried out on a table: the law holds at every argument. -/
import Derived.Test.YthnpbfljoghbmaaCLawL
import Derived.Test.YthnpbfljoghbmaaAmDrawF
namespace Go.Proofs.YthnpbfljoghbmaaA
open Go.Proofs
set_option autoImplicit false
set_option linter.unusedVariables false
set_option linter.unusedSimpArgs false
set_option maxRecDepth 4000
attribute [go_sem] refCV refTV1 refTV refObj cleanI
def unAn : List CV → Option An
  | [.t (.v (.int .i64 a)), .t (.v (.int .i64 b)), .t (.v (.string v)), .t (.sl 2 x), .t (.sl 4 y)] => (unPrR x).bind fun p => (unSsR y).map fun s => ⟨a, b, v, ⟨p, s⟩⟩
  | _ => none
theorem unAn_ok {xs : List CV} {c : An} (h : unAn xs = some c) : xs = c.cv := by
  unfold unAn at h
  split at h
  · rename_i a b v x y
    obtain ⟨p, h1, h2⟩ := Option.bind_eq_some_iff.1 h
    obtain ⟨s, h3, h4⟩ := Option.map_eq_some_iff.1 h2
    subst h4
    rw [unPrR_ok h1, unSsR_ok h3]
    rfl
  · cases h
attribute [go_sem] unAn
theorem eqAn_tc (a b : An) (h : tbOk a.t = true) : TC Try.prog 57 [.agg a.cv, .agg b.cv] [] 1 (bool (decide (a = b))) [] 1 := by
  refine tc_intro Try.func57 rfl 26 rfl (Nat.le_of_ble_eq_true rfl) (by decide) [4] rfl (by intro id x h; cases h) ?_
  intro w0 E0
  have kOk := kW3
  obtain ⟨c, r, v, ⟨s, u⟩⟩ := a
  obtain ⟨c', r', v', ⟨s', u'⟩⟩ := b
  simp only [An.cv]
  have hp := h
  repeat' (fail_if_success (with_reducible apply amR_id)); first
    | (refine guardP_mk (fun h => ?_) (fun h => ?_) <;> (refine go1 ?_; try simp only [decide_eq_true_eq, decide_eq_false_iff_not, Bool.not_true, Bool.not_false, Bool.not_eq_true', Bool.not_eq_false', beq_iff_eq, bne_iff_ne, beq_eq_false_iff_ne, bne_eq_false_iff_eq, ne_eq, Bool.false_eq_true, reduceCtorEq] at h))
    | (refine hK _ ?_; clear hK K Q1)
    | (refine ⟨by first | omega | (simp only [List.length_map, List.length_append, List.length_cons, List.length_nil, List.length_replicate, List.length_drop, List.length_take]; omega), by unfold maxLen; first | omega | (simp only [List.length_map, List.length_append, List.length_cons, List.length_nil, List.length_replicate, List.length_drop, List.length_take]; omega), ?_⟩)
    | (refine hK _ _ rfl ?_; clear hK K; try refine go1 ?_)
    | (refine am_retP rfl ?_ rfl; first | refine go ?_ | rfl)
    | (refine am_retC [] rfl ?_ rfl rfl; first | refine go ?_ | rfl)
    | (refine wkq ?_)
    | (refine am_rs tabOk kOk rfl fun K Q1 hK => ?_; refine go1 ?_)
    | (refine am_reg tabOk kOk rfl fun K Q1 hK => ?_; refine go1 ?_)
    | (refine am_ds mixed tabOk kOk rfl rfl fun K hK => ?_; refine go1 ?_)
    | (refine am_dreg mixed tabOk kOk rfl rfl fun K hK => ?_; refine go1 ?_)
  all_goals simp_all
theorem eqAn0_tc (a b : Int) (v : ByteArray) : TC Try.prog 57 [.agg [ci a, ci b, cs v, nl, nl], .agg [ci a, ci b, cs v, nl, nl]] [] 1 (bool true) [] 1 := by
  refine tc_intro Try.func57 rfl 26 rfl (Nat.le_of_ble_eq_true rfl) (by decide) [4] rfl (by intro id x h; cases h) ?_
  intro w0 E0
  have kOk := kW3
  have hp := (show (∀ x : Int, (x != x) = false) ∧ (∀ x : ByteArray, decide (x = x) = true) from ⟨fun x => by simp, fun x => by simp⟩)
  refine wk1 ?_
  refine am_retP rfl ?_ rfl
  first | rfl | (refine go ?_; rfl)
theorem markAn_tc (a : An) (k : Int) (h0 : 0 ≤ k) (hk : tbK a.t k ≤ 1099511627776) : TC Try.prog 58 [.agg a.ow, int k] a.t.rows 3 (int (tbK a.t k)) (mkTb a.t.ps.length a.t.ss.length k).rows 3 := by
  unfold tbK at hk
  simp only [Tb.rows, mkTb, tbK, An.ow]
  refine tc_intro Try.func58 rfl 10 rfl (Nat.le_of_ble_eq_true rfl) (by decide) [4] rfl dom2 ?_
  intro w0 E0
  have kOk := kW3
  obtain ⟨c, r, v, ⟨s, x⟩⟩ := a
  have hp := (show (0 ≤ k) = True ∧ (k + 2 * (s.length : Int) + 4 * (x.length : Int) ≤ 1099511627776) = True from ⟨eq_true h0, eq_true (by simpa using hk)⟩)
  refine wk1 ?_
  refine am_retB [(1, 1), (2, 2)] rfl ?_ ?_ rfl <;> first | rfl | (refine go ?_; rfl)
theorem markAn0_tc (a b : Int) (v : ByteArray) (k : Int) : TC Try.prog 58 [.agg [ci a, ci b, cs v, nl, nl], int k] [] 1 (int k) [] 1 := by
  refine tc_intro Try.func58 rfl 10 rfl (Nat.le_of_ble_eq_true rfl) (by decide) [4] rfl (by intro id x h; cases h) ?_
  intro w0 E0
  have kOk := kW3
  have hp := True.intro
  refine wk1 ?_
  refine am_retP rfl ?_ rfl
  first | rfl | (refine go ?_; rfl)
theorem heldAn_tc (a : An) (k : Int) (hm : a.t = mkTb a.t.ps.length a.t.ss.length k) (h0 : 0 ≤ k) (hk : tbK a.t k ≤ 1099511627776) : TC Try.prog 59 [.agg a.cv, int k] [] 1 (int (tbK a.t k)) [] 1 := by
  unfold tbK at hk
  simp only [tbK]
  refine tc_intro Try.func59 rfl 12 rfl (Nat.le_of_ble_eq_true rfl) (by decide) [4] rfl (by intro id x h; cases h) ?_
  intro w0 E0
  have kOk := kW3
  obtain ⟨c, r, v, ⟨s, x⟩⟩ := a
  simp only [An.cv]
  simp only at hk hm
  simp only [mkTb] at hm
  have hp := (show ((⟨s, x⟩ : Tb) = ⟨mkPrs s.length k, mkSss x.length (k + 2 * (s.length : Int))⟩) = True ∧ (0 ≤ k) = True ∧ (k + 2 * (s.length : Int) + 4 * (x.length : Int) ≤ 1099511627776) = True ∧ (k + 2 * (s.length : Int) + 4 * (x.length : Int) < 0) = False from
    ⟨eq_true hm, eq_true h0, eq_true hk, eq_false (by omega)⟩)
  clear hm
  refine wk1 ?_
  refine am_retP rfl ?_ rfl
  first | rfl | (refine go ?_; rfl)
theorem heldAn0_tc (a b : Int) (v : ByteArray) (k : Int) (h0 : 0 ≤ k) : TC Try.prog 59 [.agg [ci a, ci b, cs v, nl, nl], int k] [] 1 (int k) [] 1 := by
  refine tc_intro Try.func59 rfl 12 rfl (Nat.le_of_ble_eq_true rfl) (by decide) [4] rfl (by intro id x h; cases h) ?_
  intro w0 E0
  have kOk := kW3
  have hp := (show (0 ≤ k) = True ∧ (k < 0) = False from ⟨eq_true h0, eq_false (by omega)⟩)
  refine wk1 ?_
  refine am_retP rfl ?_ rfl
  first | rfl | (refine go ?_; rfl)
def acR (t : Tb) (c : Cm) : LR := if tbF t.ps t.ss = true then (.agg [ci (ansF t c).co, ci (ansF t c).re, cs (ansF t c).v, .own 1 0 (ansF t c).t.ps.length, .own 2 0 (ansF t c).t.ss.length], [(1, .arr 206 2 ((ansF t c).t.ps.map Pr.tr)), (2, .arr 192 4 ((ansF t c).t.ss.map Ss.tr))], 3) else (.agg [ci 9, ci 0, cs ⟨#[]⟩, .t (.v (.slice none 0 0)), .t (.v (.slice none 0 0))], [], 1)
def acV (t : Tb) (c : Cm) : TV := if tbF t.ps t.ss = true then .agg [ci (ansF t c).co, ci (ansF t c).re, cs (ansF t c).v, .t (.sl 2 ((ansF t c).t.ps.map Pr.tr)), .t (.sl 4 ((ansF t c).t.ss.map Ss.tr))] else .agg [ci 9, ci 0, cs ⟨#[]⟩, .t (.v (.slice none 0 0)), .t (.v (.slice none 0 0))]
theorem acR_tc (t : Tb) (c : Cm) (h : tbOk t = true) : TC Try.prog 56 [.agg t.cv, .agg c.cv] [] 1 (acR t c).1 (acR t c).2.1 (acR t c).2.2 := by
  unfold acR
  split
  · rename_i h1; exact apI_tc t c h h1
  · rename_i h1; exact apI9_tc t c h (by simpa using h1)
theorem acV_tc (t : Tb) (c : Cm) (h : tbOk t = true) : TC Try.prog 53 [.agg t.cv, .agg c.cv] [] 1 (acV t c) [] 1 := by
  unfold acV
  split
  · rename_i h1; exact apS_tc t c h h1
  · rename_i h1; exact apS9_tc t c h (by simpa using h1)
attribute [go_sem] acR acV
def kwY_0_2 (t : Tb) (c : Cm) : Option TV := if tbOk t = true then some (acV t c) else none
def kwY_0_1 (r1 : List CV) (t : Tb) : Option TV := (unCm r1).bind (kwY_0_2 t)
def kwY_0_0 (r0 : List CV) (r1 : List CV) : Option TV := (unTb r0).bind (kwY_0_1 r1)
def kwY_0 : List TV → Option TV
  | [.agg r0, .agg r1] => kwY_0_0 r0 r1
  | _ => none
def kwY_call (f : FuncId) (args : List TV) : Option TV := if f = 53 then orO (kwY_0 args) (kwG.call f args) else kwG.call f args
def kwY : Kn := { call := kwY_call, eqs := eqTys, callB := kwG.callB }
attribute [go_sem] kwY_0_0 kwY_0_1 kwY_0_2 kwY_0 kwY_call kwY
theorem kwY_ok : ∀ f args res, kwY_call f args = some res → TC Try.prog f args [] 1 res [] 1 := by
  intro f args res h
  unfold kwY_call at h
  split at h
  · rename_i e; subst e
    have hh := orO_elim h
    clear h
    rcases hh with h | h
    rotate_left
    · exact kWG.call _ _ _ h
    unfold kwY_0 at h
    split at h
    · rename_i r0 r1; unfold kwY_0_0 at h
      obtain ⟨t, e0, h⟩ := Option.bind_eq_some_iff.1 h
      unfold kwY_0_1 at h
      obtain ⟨c, e1, h⟩ := Option.bind_eq_some_iff.1 h
      unfold kwY_0_2 at h
      split at h
      · rename_i hc; cases h; rw [unTb_ok e0, unCm_ok e1]; exact acV_tc t c hc
      · cases h
    · cases h
  · exact kWG.call f args res h
theorem kWY : KnOk Try.prog kwY := ⟨kwY_ok, eqTysOk, kWG.callB⟩
def kwYb_0_2 (t : Tb) (c : Cm) : CB := if tbOk t = true then some ((acR t c).1, (acR t c).2.1, (acR t c).2.2) else none
def kwYb_0_1 (x0 : List CV) (t : Tb) : CB := (unCm x0).bind (kwYb_0_2 t)
def kwYb_0_0 (r0 : List CV) (x0 : List CV) : CB := (unTb r0).bind (kwYb_0_1 x0)
def kwYb_0 : List TV → List (Nat × AObj) → CB
  | [.agg r0, .agg x0], [] => kwYb_0_0 r0 x0
  | _, _ => none
def kwYb_call (f : FuncId) (args : List TV) (o : List (Nat × AObj)) : CB := if f = 56 then orO (kwYb_0 args o) (kwY.callB f args o) else kwY.callB f args o
def kwYb : Kn := { call := kwY.call, eqs := eqTys, callB := kwYb_call }
attribute [go_sem] kwYb_0_0 kwYb_0_1 kwYb_0_2 kwYb_0 kwYb_call kwYb
theorem kwYb_ok : ∀ f args o res o1 n1, kwYb_call f args o = some (res, o1, n1) → TC Try.prog f args o (o.length + 1) res o1 n1 := by
  intro f args o res o1 n1 h
  unfold kwYb_call at h
  split at h
  · rename_i e; subst e
    have hh := orO_elim h
    clear h
    rcases hh with h | h
    rotate_left
    · exact kWY.callB _ _ _ _ _ _ h
    unfold kwYb_0 at h
    split at h
    · rename_i r0 x0; unfold kwYb_0_0 at h
      have hb0 := Option.bind_eq_some_iff.1 h
      clear h
      obtain ⟨t, e0, h⟩ := hb0
      unfold kwYb_0_1 at h
      have hb1 := Option.bind_eq_some_iff.1 h
      clear h
      obtain ⟨c, e1, h⟩ := hb1
      unfold kwYb_0_2 at h
      split at h
      · rename_i hc; cases h; rw [unTb_ok e0, unCm_ok e1]; exact acR_tc t c hc
      · cases h
    · cases h
  · exact kWY.callB f args o res o1 n1 h
theorem kWYb : KnOk Try.prog kwYb := ⟨kWY.call, eqTysOk, kwYb_ok⟩
def kw4n_0_2 (a : An) (b : An) : Option TV := if tbOk a.t = true then some (bool (decide (a = b))) else none
def kw4n_0_1 (r1 : List CV) (a : An) : Option TV := (unAn r1).bind (kw4n_0_2 a)
def kw4n_0_0 (r0 : List CV) (r1 : List CV) : Option TV := (unAn r0).bind (kw4n_0_1 r1)
def kw4n_0 : List TV → Option TV
  | [.agg r0, .agg r1] => kw4n_0_0 r0 r1
  | _ => none
def kw4n_1_1 (k : Int) (a : An) : Option TV := if a.t = mkTb a.t.ps.length a.t.ss.length k ∧ 0 ≤ k ∧ tbK a.t k ≤ 1099511627776 then some (int (tbK a.t k)) else none
def kw4n_1_0 (k : Int) (r0 : List CV) : Option TV := (unAn r0).bind (kw4n_1_1 k)
def kw4n_1 : List TV → Option TV
  | [.agg r0, .c (.t (.v (.int .i64 k)))] => kw4n_1_0 k r0
  | _ => none
def kw4n_call (f : FuncId) (args : List TV) : Option TV := if f = 57 then orO (kw4n_0 args) (kw3.call f args) else if f = 59 then orO (kw4n_1 args) (kw3.call f args) else kw3.call f args
def kw4n : Kn := { call := kw4n_call, eqs := eqTys, callB := kw3.callB }
attribute [go_sem] kw4n_0_0 kw4n_0_1 kw4n_0_2 kw4n_0 kw4n_1_0 kw4n_1_1 kw4n_1 kw4n_call kw4n
theorem kw4n_ok : ∀ f args res, kw4n_call f args = some res → TC Try.prog f args [] 1 res [] 1 := by
  intro f args res h
  unfold kw4n_call at h
  split at h
  · rename_i e; subst e
    have hh := orO_elim h
    clear h
    rcases hh with h | h
    rotate_left
    · exact kW3.call _ _ _ h
    unfold kw4n_0 at h
    split at h
    · rename_i r0 r1; unfold kw4n_0_0 at h
      obtain ⟨a, e0, h⟩ := Option.bind_eq_some_iff.1 h
      unfold kw4n_0_1 at h
      obtain ⟨b, e1, h⟩ := Option.bind_eq_some_iff.1 h
      unfold kw4n_0_2 at h
      split at h
      · rename_i hc; cases h; rw [unAn_ok e0, unAn_ok e1]; exact eqAn_tc a b hc
      · cases h
    · cases h
  split at h
  · rename_i e; subst e
    have hh := orO_elim h
    clear h
    rcases hh with h | h
    rotate_left
    · exact kW3.call _ _ _ h
    unfold kw4n_1 at h
    split at h
    · rename_i r0 k; unfold kw4n_1_0 at h
      obtain ⟨a, e0, h⟩ := Option.bind_eq_some_iff.1 h
      unfold kw4n_1_1 at h
      split at h
      · rename_i hc; cases h; rw [unAn_ok e0]; exact heldAn_tc a k hc.1 hc.2.1 hc.2.2
      · cases h
    · cases h
  · exact kW3.call f args res h
theorem kW4n : KnOk Try.prog kw4n := ⟨kw4n_ok, eqTysOk, kW3.callB⟩
def kw4m_0_0 (a1 : Int) (a2 : Int) (a3 : ByteArray) (b1 : Int) (b2 : Int) (b3 : ByteArray) : CB := if a1 = b1 ∧ a2 = b2 ∧ a3 = b3 then some (bool true, [], 1) else none
def kw4m_0 : List TV → List (Nat × AObj) → CB
  | [.agg [.t (.v (.int .i64 a1)), .t (.v (.int .i64 a2)), .t (.v (.string a3)), .t (.v (.slice none 0 0)), .t (.v (.slice none 0 0))], .agg [.t (.v (.int .i64 b1)), .t (.v (.int .i64 b2)), .t (.v (.string b3)), .t (.v (.slice none 0 0)), .t (.v (.slice none 0 0))]], [] => kw4m_0_0 a1 a2 a3 b1 b2 b3
  | _, _ => none
def kw4m_1_0 (a1 : Int) (a2 : Int) (a3 : ByteArray) (k : Int) : CB := some (int k, [], 1)
def kw4m_1 : List TV → List (Nat × AObj) → CB
  | [.agg [.t (.v (.int .i64 a1)), .t (.v (.int .i64 a2)), .t (.v (.string a3)), .t (.v (.slice none 0 0)), .t (.v (.slice none 0 0))], .c (.t (.v (.int .i64 k)))], [] => kw4m_1_0 a1 a2 a3 k
  | _, _ => none
def kw4m_2_0 (a1 : Int) (a2 : Int) (a3 : ByteArray) (k : Int) : CB := if 0 ≤ k then some (int k, [], 1) else none
def kw4m_2 : List TV → List (Nat × AObj) → CB
  | [.agg [.t (.v (.int .i64 a1)), .t (.v (.int .i64 a2)), .t (.v (.string a3)), .t (.v (.slice none 0 0)), .t (.v (.slice none 0 0))], .c (.t (.v (.int .i64 k)))], [] => kw4m_2_0 a1 a2 a3 k
  | _, _ => none
def kw4m_3_2 (t : Tb) (c : Cm) : CB := if tbOk t = true then some ((acR t c).1, (acR t c).2.1, (acR t c).2.2) else none
def kw4m_3_1 (x0 : List CV) (t : Tb) : CB := (unCm x0).bind (kw4m_3_2 t)
def kw4m_3_0 (r0 : List CV) (x0 : List CV) : CB := (unTb r0).bind (kw4m_3_1 x0)
def kw4m_3 : List TV → List (Nat × AObj) → CB
  | [.agg r0, .agg x0], [] => kw4m_3_0 r0 x0
  | _, _ => none
def kw4m_call (f : FuncId) (args : List TV) (o : List (Nat × AObj)) : CB := if f = 57 then orO (kw4m_0 args o) (kw4n.callB f args o) else if f = 58 then orO (kw4m_1 args o) (kw4n.callB f args o) else if f = 59 then orO (kw4m_2 args o) (kw4n.callB f args o) else if f = 56 then orO (kw4m_3 args o) (kw4n.callB f args o) else kw4n.callB f args o
def kw4m : Kn := { call := kw4n.call, eqs := eqTys, callB := kw4m_call }
attribute [go_sem] kw4m_0_0 kw4m_0 kw4m_1_0 kw4m_1 kw4m_2_0 kw4m_2 kw4m_3_0 kw4m_3_1 kw4m_3_2 kw4m_3 kw4m_call kw4m
theorem kw4m_ok : ∀ f args o res o1 n1, kw4m_call f args o = some (res, o1, n1) → TC Try.prog f args o (o.length + 1) res o1 n1 := by
  intro f args o res o1 n1 h
  unfold kw4m_call at h
  split at h
  · rename_i e; subst e
    have hh := orO_elim h
    clear h
    rcases hh with h | h
    rotate_left
    · exact kW4n.callB _ _ _ _ _ _ h
    unfold kw4m_0 at h
    split at h
    · rename_i a1 a2 a3 b1 b2 b3; unfold kw4m_0_0 at h
      split at h
      · rename_i hc; cases h; obtain ⟨rfl, rfl, rfl⟩ := hc; exact eqAn0_tc a1 a2 a3
      · cases h
    · cases h
  split at h
  · rename_i e; subst e
    have hh := orO_elim h
    clear h
    rcases hh with h | h
    rotate_left
    · exact kW4n.callB _ _ _ _ _ _ h
    unfold kw4m_1 at h
    split at h
    · rename_i a1 a2 a3 k; unfold kw4m_1_0 at h
      cases h; exact markAn0_tc a1 a2 a3 k
    · cases h
  split at h
  · rename_i e; subst e
    have hh := orO_elim h
    clear h
    rcases hh with h | h
    rotate_left
    · exact kW4n.callB _ _ _ _ _ _ h
    unfold kw4m_2 at h
    split at h
    · rename_i a1 a2 a3 k; unfold kw4m_2_0 at h
      split at h
      · rename_i hc; cases h; exact heldAn0_tc a1 a2 a3 k hc
      · cases h
    · cases h
  split at h
  · rename_i e; subst e
    have hh := orO_elim h
    clear h
    rcases hh with h | h
    rotate_left
    · exact kW4n.callB _ _ _ _ _ _ h
    unfold kw4m_3 at h
    split at h
    · rename_i r0 x0; unfold kw4m_3_0 at h
      have hb0 := Option.bind_eq_some_iff.1 h
      clear h
      obtain ⟨t, e0, h⟩ := hb0
      unfold kw4m_3_1 at h
      have hb1 := Option.bind_eq_some_iff.1 h
      clear h
      obtain ⟨c, e1, h⟩ := hb1
      unfold kw4m_3_2 at h
      split at h
      · rename_i hc; cases h; rw [unTb_ok e0, unCm_ok e1]; exact acR_tc t c hc
      · cases h
    · cases h
  · exact kW4n.callB f args o res o1 n1 h
theorem kW4m : KnOk Try.prog kw4m := ⟨kW4n.call, eqTysOk, kw4m_ok⟩
def kw4_0_2 (co : Int) (re : Int) (v : ByteArray) (a : Nat) (b : Nat) (k : Int) (s : List Pr) (u : List Ss) : CB := if a = s.length ∧ b = u.length ∧ 0 ≤ k ∧ tbK ⟨s, u⟩ k ≤ 1099511627776 then some (int (tbK ⟨s, u⟩ k), [(1, .arr 206 2 ((mkPrs s.length k).map Pr.tr)), (2, .arr 192 4 ((mkSss u.length (k + 2 * (s.length : Nat))).map Ss.tr))], 3) else none
def kw4_0_1 (co : Int) (re : Int) (v : ByteArray) (a : Nat) (b : Nat) (k : Int) (r1 : List (List Tree)) (s : List Pr) : CB := (unSsR r1).bind (kw4_0_2 co re v a b k s)
def kw4_0_0 (co : Int) (re : Int) (v : ByteArray) (a : Nat) (b : Nat) (k : Int) (r0 : List (List Tree)) (r1 : List (List Tree)) : CB := (unPrR r0).bind (kw4_0_1 co re v a b k r1)
def kw4_0 : List TV → List (Nat × AObj) → CB
  | [.agg [.t (.v (.int .i64 co)), .t (.v (.int .i64 re)), .t (.v (.string v)), .own 1 0 a, .own 2 0 b], .c (.t (.v (.int .i64 k)))], [(1, .arr 206 2 r0), (2, .arr 192 4 r1)] => kw4_0_0 co re v a b k r0 r1
  | _, _ => none
def kw4_call (f : FuncId) (args : List TV) (o : List (Nat × AObj)) : CB := if f = 58 then orO (kw4_0 args o) (kw4m.callB f args o) else kw4m.callB f args o
def kw4 : Kn := { call := kw4m.call, eqs := eqTys, callB := kw4_call }
attribute [go_sem] kw4_0_0 kw4_0_1 kw4_0_2 kw4_0 kw4_call kw4
theorem kw4_ok : ∀ f args o res o1 n1, kw4_call f args o = some (res, o1, n1) → TC Try.prog f args o (o.length + 1) res o1 n1 := by
  intro f args o res o1 n1 h
  unfold kw4_call at h
  split at h
  · rename_i e; subst e
    have hh := orO_elim h
    clear h
    rcases hh with h | h
    rotate_left
    · exact kW4m.callB _ _ _ _ _ _ h
    unfold kw4_0 at h
    split at h
    · rename_i co re v a b k r0 r1; unfold kw4_0_0 at h
      have hb0 := Option.bind_eq_some_iff.1 h
      clear h
      obtain ⟨s, e0, h⟩ := hb0
      unfold kw4_0_1 at h
      have hb1 := Option.bind_eq_some_iff.1 h
      clear h
      obtain ⟨u, e1, h⟩ := hb1
      unfold kw4_0_2 at h
      split at h
      · rename_i hc; cases h; rw [unPrR_ok e0, unSsR_ok e1]; obtain ⟨rfl, rfl, h1, h2⟩ := hc; exact markAn_tc ⟨co, re, v, ⟨s, u⟩⟩ k h1 h2
      · cases h
    · cases h
  · exact kW4m.callB f args o res o1 n1 h
theorem kW4 : KnOk Try.prog kw4 := ⟨kW4m.call, eqTysOk, kw4_ok⟩
abbrev Pr.ok (p : Pr) : Prop := p.k.size ≤ maxLen ∧ p.v.size ≤ maxLen
theorem lft_le {x : Int} {n : Nat} (h : 0 ≤ x ∧ x ≤ 1048576) (hn : n ≤ maxLen) : -1 ≤ lft x n ∧ lft x n ≤ x := by
  unfold maxLen at hn
  unfold lft
  have e : IntKind.i64.wrap (x - n) = x - n := by rw [IntKind.wrap_i64]; omega
  rw [e]
  split <;> omega
theorem szPr1_le {p : Pr} {x : Int} (hp : p.ok) (h : 0 ≤ x ∧ x ≤ 1048576) : -1 ≤ szPr1 p x ∧ szPr1 p x ≤ x := by
  have h1 := lft_le h hp.1
  have hF : -1 ≤ szPrF p x ∧ szPrF p x ≤ x := by
    unfold szPrF
    split
    · omega
    · have h4 := lft_le (x := lft x p.k.size) (n := p.v.size) (by omega) hp.2
      omega
  unfold szPr1
  split <;> omega
theorem szPrGo_le : ∀ {l : List Pr} {x : Int}, (∀ p, p ∈ l → p.ok) → (0 ≤ x ∧ x ≤ 1048576) → -1 ≤ szPrGo l x ∧ szPrGo l x ≤ x
  | [], x, _, h => by simp only [szPrGo]; omega
  | p :: l, x, hp, h => by
    have h1 := szPr1_le (hp p List.mem_cons_self) h
    simp only [szPrGo]
    split
    · omega
    · have := szPrGo_le (l := l) (x := szPr1 p x) (fun q hq => hp q (List.mem_cons_of_mem _ hq)) (by omega)
      omega
theorem szTb_len {t : Tb} (h1 : ∀ p, p ∈ t.ps → p.ok) (h2 : t.ps.length ≤ maxLen) (h3 : t.ss.length ≤ maxLen) (h : ¬ szTbF t 1048576 < 0) : tbOk t = true := by
  unfold szTbF at h
  split at h
  · omega
  rename_i h4
  split at h
  · omega
  rename_i h5
  have h6 := szPrs_len h2 (by omega) h4
  have h7 : 0 ≤ szPrsF t.ps 1048576 ∧ szPrsF t.ps 1048576 ≤ 1048576 := by
    refine ⟨by omega, ?_⟩
    unfold szPrsF
    have e : IntKind.i64.wrap (1048576 - (t.ps.length : Int)) = 1048576 - (t.ps.length : Int) := wrapN (by omega) (by omega)
    rw [e]
    split
    · omega
    · have := szPrGo_le (l := t.ps) (x := 1048576 - (t.ps.length : Int)) h1 (by omega)
      omega
  have h8 := szSss_len h3 h7 h5
  simp only [tbOk, decide_eq_true_eq]
  exact ⟨h6, h8⟩
theorem ansB {t : Tb} {c : Cm} (h : tbF t.ps t.ss = true) : (ansF t c).t.ps.length ≤ 256 ∧ (ansF t c).t.ss.length ≤ 8 := by
  have hi := inv_mk h
  unfold ansF
  split
  · rename_i hc
    have := (car_ok hi hc).2
    exact ⟨this.np, this.ns⟩
  · exact ⟨hi.np, hi.ns⟩
set_option maxHeartbeats 64000000 in
theorem lawCmd_tc (t : Tb) (c : Cm) (h1 : ∀ p, p ∈ t.ps → p.ok) (h2 : t.ps.length ≤ maxLen) (h3 : t.ss.length ≤ maxLen) : TC Try.prog 9 [.agg t.cv, .agg c.cv] [] 1 (bool true) [] 1 := by
  have hbig : tbBig t = true := by simp only [tbBig, decide_eq_true_eq]; exact ⟨h2, h3⟩
  refine tc_intro Try.func9 rfl 82 rfl (Nat.le_of_ble_eq_true rfl) (by decide) [4] rfl (by intro id x h; cases h) ?_
  intro w0 E0
  have kOk := kW4
  by_cases hs : szTbF t 1048576 < 0
  · obtain ⟨s, u⟩ := t
    simp only [Tb.cv]
    have hp := (show tbBig ⟨s, u⟩ = true ∧ (szTbF ⟨s, u⟩ 1048576 < 0) = True from ⟨hbig, eq_true hs⟩)
    refine wk1 ?_
    refine am_retP rfl ?_ rfl
    first | rfl | (refine go ?_; rfl)
  have hok := szTb_len h1 h2 h3 hs
  by_cases hs2 : szCmF c (szTbF t 1048576) < 0
  · obtain ⟨s, u⟩ := t
    simp only [Tb.cv]
    have hp := (show tbBig ⟨s, u⟩ = true ∧ (szTbF ⟨s, u⟩ 1048576 < 0) = False ∧ (szCmF c (szTbF ⟨s, u⟩ 1048576) < 0) = True from ⟨hbig, eq_false hs, eq_true hs2⟩)
    obtain ⟨a, q, o, x, y, z⟩ := c
    simp only [Cm.cv]
    refine wk1 ?_
    refine am_retP rfl ?_ rfl
    first | rfl | (refine go ?_; rfl)
  have hk := tbOk_ok hok
  have base := (show tbBig t = true ∧ tbOk t = true ∧ (szTbF t 1048576 < 0) = False ∧ (szCmF c (szTbF t 1048576) < 0) = False ∧ (t.ps.length ≤ 1048576) = True ∧ (t.ss.length ≤ 1048576) = True ∧ (∀ x : Int, (x != x) = false) ∧ ((0 : Int) ≤ 1) = True ∧ (1 + 2 * (t.ps.length : Int) + 4 * (t.ss.length : Int) ≤ 1099511627776) = True ∧ (1 + 2 * (t.ps.length : Int) + 4 * (t.ss.length : Int) < 0) = False ∧ ((1 : Int) < 0) = False ∧ (∀ x : Tb, decide (x = x) = true) ∧ (∀ x : An, decide (x = x) = true) from
    ⟨hbig, hok, eq_false hs, eq_false hs2, eq_true hk.1, eq_true hk.2, fun x => by simp, by simp, eq_true (by omega), eq_false (by omega), by simp, fun x => by simp, fun x => by simp⟩)
  cases hf : tbF t.ps t.ss with
  | false =>
    obtain ⟨s, u⟩ := t
    simp only [Tb.cv]
    simp only at base hf
    obtain ⟨a, q, o, x, y, z⟩ := c
    simp only [Cm.cv]
    have hp := And.intro base hf
    refine wk1 ?_
    refine am_ds mixed tabOk kWYb rfl rfl fun K hK => ?_
    refine go1 ?_
    refine hK _ _ rfl ?_
    clear hK K
    refine go1 ?_
    refine wk1 ?_
    refine am_dsF mixed tabOk kOk rfl rfl (Nat.le_of_ble_eq_true rfl) (Nat.succ_ne_zero _) fun K hK => ?_
    refine go1 ?_
    refine hK _ _ rfl ?_
    clear hK K
    refine go1 ?_
    refine wk1 ?_
    refine am_dsF mixed tabOk kWYb rfl rfl (Nat.le_of_ble_eq_true rfl) (Nat.succ_ne_zero _) fun K hK => ?_
    refine go1 ?_
    refine hK _ _ rfl ?_
    clear hK K
    refine go1 ?_
    refine wk1 ?_
    refine am_retP rfl ?_ rfl
    first | rfl | (refine go ?_; rfl)
  | true =>
    obtain ⟨n1, n2⟩ := ansB (c := c) hf
    generalize hA : ansF t c = A at n1 n2
    obtain ⟨ac, ar, av, ⟨s', u'⟩⟩ := A
    obtain ⟨s, u⟩ := t
    simp only [Tb.cv]
    simp only at base hf n1 n2
    obtain ⟨a, q, o, x, y, z⟩ := c
    simp only [Cm.cv]
    have hp := And.intro base (show tbF s u = true ∧ ansF ⟨s, u⟩ ⟨a, q, o, x, y, z⟩ = ⟨ac, ar, av, ⟨s', u'⟩⟩ ∧ (s'.length ≤ 1048576) = True ∧ (u'.length ≤ 1048576) = True ∧ tbOk ⟨s', u'⟩ = true ∧ (1 + 2 * (s'.length : Int) + 4 * (u'.length : Int) ≤ 1099511627776) = True ∧ (1 + 2 * (s'.length : Int) + 4 * (u'.length : Int) < 0) = False from
      ⟨hf, hA, eq_true (by omega), eq_true (by omega), by simp [tbOk]; omega, eq_true (by omega), eq_false (by omega)⟩)
    refine wk1 ?_
    refine am_ds mixed tabOk kWYb rfl rfl fun K hK => ?_
    refine go1 ?_
    refine hK _ _ rfl ?_
    clear hK K
    refine go1 ?_
    refine wk1 ?_
    refine am_dsF mixed tabOk kOk rfl rfl (Nat.le_of_ble_eq_true rfl) (Nat.succ_ne_zero _) fun K hK => ?_
    refine go1 ?_
    refine hK _ _ rfl ?_
    clear hK K
    refine go1 ?_
    refine wk1 ?_
    refine am_dsF mixed tabOk kWYb rfl rfl (Nat.le_of_ble_eq_true rfl) (Nat.succ_ne_zero _) fun K hK => ?_
    refine go1 ?_
    refine hK _ _ rfl ?_
    clear hK K
    refine go1 ?_
    refine wk1 ?_
    refine am_retP rfl ?_ rfl
    first | rfl | (refine go ?_; rfl)
end Go.Proofs.YthnpbfljoghbmaaA
