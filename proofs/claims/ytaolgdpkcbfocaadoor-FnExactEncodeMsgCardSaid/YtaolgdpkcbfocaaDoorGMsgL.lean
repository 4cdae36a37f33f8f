/- Messages encoded: the law holds at every argument. -/
import Derived.Test.YtaolgdpkcbfocaaDoorGMsg3
import Derived.Test.YtaolgdpkcbfocaaDoorFBy
namespace Go.Proofs.YtaolgdpkcbfocaaDoorA
open Go.Proofs
set_option autoImplicit false
set_option linter.unusedVariables false
set_option linter.unusedSimpArgs false
set_option maxRecDepth 4000
def kn94_0_1 (n : Int) (l : List Ent) : Option TV := if l.length ≤ maxLen then some (int (szEsF l n)) else none
def kn94_0_0 (n : Int) (r0 : List (List Tree)) : Option TV := (unEnts r0).bind (kn94_0_1 n)
def kn94_0 : List TV → Option TV
  | [.c (.t (.sl 7 r0)), .c (.t (.v (.int .i64 n)))] => kn94_0_0 n r0
  | _ => none
def kn94_1_2 (l : List Ent) (r : List Ent) : Option TV := if l.length ≤ 1048576 then some (bool (decide (l = r))) else none
def kn94_1_1 (r1 : List (List Tree)) (l : List Ent) : Option TV := (unEnts r1).bind (kn94_1_2 l)
def kn94_1_0 (r0 : List (List Tree)) (r1 : List (List Tree)) : Option TV := (unEnts r0).bind (kn94_1_1 r1)
def kn94_1 : List TV → Option TV
  | [.c (.t (.sl 7 r0)), .c (.t (.sl 7 r1))] => kn94_1_0 r0 r1
  | _ => none
def kn94_call (f : FuncId) (args : List TV) : Option TV := if f = 60 then orO (kn94_0 args) (kn93.call f args) else if f = 64 then orO (kn94_1 args) (kn93.call f args) else kn93.call f args
def kn94 : Kn := { call := kn94_call, eqs := eqTys, callB := kn93.callB }
attribute [go_sem] kn94_0_0 kn94_0_1 kn94_0 kn94_1_0 kn94_1_1 kn94_1_2 kn94_1 kn94_call kn94
theorem kn94_ok : ∀ f args res, kn94_call f args = some res → TC Tryd.prog f args [] 1 res [] 1 := by
  intro f args res h
  unfold kn94_call at h
  split at h
  · rename_i e; subst e
    have hh := orO_elim h
    clear h
    rcases hh with h | h
    rotate_left
    · exact k93.call _ _ _ h
    unfold kn94_0 at h
    split at h
    · rename_i r0 n; unfold kn94_0_0 at h
      obtain ⟨l, e0, h⟩ := Option.bind_eq_some_iff.1 h
      unfold kn94_0_1 at h
      split at h
      · rename_i hc; cases h; rw [unEnts_ok e0]; exact szEs_tc l n hc
      · cases h
    · cases h
  split at h
  · rename_i e; subst e
    have hh := orO_elim h
    clear h
    rcases hh with h | h
    rotate_left
    · exact k93.call _ _ _ h
    unfold kn94_1 at h
    split at h
    · rename_i r0 r1; unfold kn94_1_0 at h
      obtain ⟨l, e0, h⟩ := Option.bind_eq_some_iff.1 h
      unfold kn94_1_1 at h
      obtain ⟨r, e1, h⟩ := Option.bind_eq_some_iff.1 h
      unfold kn94_1_2 at h
      split at h
      · rename_i hc; cases h; rw [unEnts_ok e0, unEnts_ok e1]; exact eqEnts_tc l r hc
      · cases h
    · cases h
  · exact k93.call f args res h
theorem k94 : KnOk Tryd.prog kn94 := ⟨kn94_ok, eqTysOk, k93.callB⟩
def kn95_0_1 (l : List Ent) : CB := if l.length ≤ 1048576 then some (.c (.own 1 0 l.length), [(1, .arr 98 7 (l.map Ent.tr))], 2) else none
def kn95_0_0 (r0 : List (List Tree)) : CB := (unEnts r0).bind (kn95_0_1)
def kn95_0 : List TV → List (Nat × AObj) → CB
  | [.c (.t (.sl 7 r0))], [] => kn95_0_0 r0
  | _, _ => none
def kn95_1_1 (n : Nat) (k : Int) (l : List Ent) : CB := if n = l.length ∧ 0 ≤ k ∧ k + 7 * (l.length : Nat) ≤ 1099511627776 then some (int (k + 7 * (l.length : Nat)), [(1, .arr 98 7 ((mkEs l.length k).map Ent.tr))], 2) else none
def kn95_1_0 (n : Nat) (k : Int) (r0 : List (List Tree)) : CB := (unEnts r0).bind (kn95_1_1 n k)
def kn95_1 : List TV → List (Nat × AObj) → CB
  | [.c (.own 1 0 n), .c (.t (.v (.int .i64 k)))], [(1, .arr 98 7 r0)] => kn95_1_0 n k r0
  | _, _ => none
def kn95_call (f : FuncId) (args : List TV) (o : List (Nat × AObj)) : CB := if f = 63 then orO (kn95_0 args o) (kn94.callB f args o) else if f = 65 then orO (kn95_1 args o) (kn94.callB f args o) else kn94.callB f args o
def kn95 : Kn := { call := kn94.call, eqs := eqTys, callB := kn95_call }
attribute [go_sem] kn95_0_0 kn95_0_1 kn95_0 kn95_1_0 kn95_1_1 kn95_1 kn95_call kn95
theorem kn95_ok : ∀ f args o res o1 n1, kn95_call f args o = some (res, o1, n1) → TC Tryd.prog f args o (o.length + 1) res o1 n1 := by
  intro f args o res o1 n1 h
  unfold kn95_call at h
  split at h
  · rename_i e; subst e
    have hh := orO_elim h
    clear h
    rcases hh with h | h
    rotate_left
    · exact k94.callB _ _ _ _ _ _ h
    unfold kn95_0 at h
    split at h
    · rename_i r0; unfold kn95_0_0 at h
      have hb0 := Option.bind_eq_some_iff.1 h
      clear h
      obtain ⟨l, e0, h⟩ := hb0
      unfold kn95_0_1 at h
      split at h
      · rename_i hc; cases h; rw [unEnts_ok e0]; exact toEnts_tc l hc
      · cases h
    · cases h
  split at h
  · rename_i e; subst e
    have hh := orO_elim h
    clear h
    rcases hh with h | h
    rotate_left
    · exact k94.callB _ _ _ _ _ _ h
    unfold kn95_1 at h
    split at h
    · rename_i n k r0; unfold kn95_1_0 at h
      have hb0 := Option.bind_eq_some_iff.1 h
      clear h
      obtain ⟨l, e0, h⟩ := hb0
      unfold kn95_1_1 at h
      split at h
      · rename_i hc; cases h; rw [unEnts_ok e0]; obtain ⟨rfl, h1, h2⟩ := hc; exact markEs_tc l k h1 h2
      · cases h
    · cases h
  · exact k94.callB f args o res o1 n1 h
theorem k95 : KnOk Tryd.prog kn95 := ⟨k94.call, eqTysOk, kn95_ok⟩
set_option maxHeartbeats 8000000 in
theorem szMs_tc (c : Ms) (left : Int) (hl : c.es.length ≤ maxLen) : TC Tryd.prog 26 [.agg c.cv, int left] [] 1 (int (if szEsF c.es left < 0 then -1 else szEsF c.es left)) [] 1 := by
  refine tc_intro Tryd.func26 rfl 12 rfl (Nat.le_of_ble_eq_true rfl) (by decide) [4] rfl (by intro id x h; cases h) ?_
  intro w0 E0
  have kOk := k95
  obtain ⟨kd, fr, to, te, li, lt, co, ok, hi, l⟩ := c
  have hp : (l.length ≤ maxLen) = True := eq_true hl
  simp only [Ms.cv]
  repeat' (fail_if_success (with_reducible apply amR_id)); first
    | (refine guardP_mk (fun h => ?_) (fun h => ?_) <;> (refine go1 ?_; try simp only [decide_eq_true_eq, decide_eq_false_iff_not, Bool.not_true, Bool.not_false, Bool.not_eq_true', Bool.not_eq_false', beq_iff_eq, bne_iff_ne, beq_eq_false_iff_ne, bne_eq_false_iff_eq, ne_eq, Bool.false_eq_true, reduceCtorEq] at h))
    | (refine hK _ ?_; clear hK K Q1)
    | (refine ⟨by first | omega | (simp only [List.length_map, List.length_append, List.length_cons, List.length_nil, List.length_replicate, List.length_drop, List.length_take]; omega), by unfold maxLen; first | omega | (simp only [List.length_map, List.length_append, List.length_cons, List.length_nil, List.length_replicate, List.length_drop, List.length_take]; omega), ?_⟩)
    | (refine hK _ _ rfl ?_; clear hK K; try refine go1 ?_)
    | (refine am_retP rfl ?_ rfl; first | refine go ?_ | rfl)
    | (refine am_retC [] rfl ?_ rfl rfl; first | refine go ?_ | rfl)
    | (refine wkq ?_)
    | (refine am_rs tabOk kOk rfl fun K Q1 hK => ?_; refine go1 ?_)
    | (refine am_reg tabOk kOk rfl fun K Q1 hK => ?_; refine go1 ?_)
    | (refine am_ds mixed tabOk kOk rfl rfl fun K hK => ?_; refine go1 ?_)
    | (refine am_dreg mixed tabOk kOk rfl rfl fun K hK => ?_; refine go1 ?_)
  all_goals (simp (disch := omega) only [if_pos, if_neg]; try rfl)
theorem toMs_tc (c : Ms) (hl : c.es.length ≤ 1048576) : TC Tryd.prog 28 [.agg c.cv] [] 1 (.agg [ci c.kd, ci c.fr, ci c.to, ci c.te, ci c.li, ci c.lt, ci c.co, ci c.ok, ci c.hi, .own 1 0 c.es.length]) [(1, .arr 98 7 (c.es.map Ent.tr))] 2 := by
  refine tc_cell tabOk Tryd.func28 rfl 36 rfl (Nat.le_of_ble_eq_true rfl) (by decide) [(2, some 54)] rfl (by intro id x h; cases h) ?_
  intro w0 E0
  have kOk := k95
  obtain ⟨kd, fr, to, te, li, lt, co, ok, hi, l⟩ := c
  have hp : (l.length ≤ 1048576) = True := eq_true hl
  simp only [Ms.cv]
  refine wk1 ?_
  refine am_retC [(4, 1)] rfl ?_ rfl rfl
  first | refine go ?_ | rfl
set_option maxHeartbeats 8000000 in
theorem eqMs_tc (c d : Ms) (hl : c.es.length ≤ 1048576) : TC Tryd.prog 30 [.agg c.cv, .agg d.cv] [] 1 (bool (decide (c = d))) [] 1 := by
  refine tc_intro Tryd.func30 rfl 56 rfl (Nat.le_of_ble_eq_true rfl) (by decide) [4] rfl (by intro id x h; cases h) ?_
  intro w0 E0
  have kOk := k95
  obtain ⟨kd, fr, to, te, li, lt, co, ok, hi, l⟩ := c
  obtain ⟨kd', fr', to', te', li', lt', co', ok', hi', l'⟩ := d
  have hp : (l.length ≤ 1048576) = True := eq_true hl
  simp only [Ms.cv]
  repeat' (fail_if_success (with_reducible apply amR_id)); first
    | (refine guardP_mk (fun h => ?_) (fun h => ?_) <;> (refine go1 ?_; try simp only [decide_eq_true_eq, decide_eq_false_iff_not, Bool.not_true, Bool.not_false, Bool.not_eq_true', Bool.not_eq_false', beq_iff_eq, bne_iff_ne, beq_eq_false_iff_ne, bne_eq_false_iff_eq, ne_eq, Bool.false_eq_true, reduceCtorEq] at h))
    | (refine hK _ ?_; clear hK K Q1)
    | (refine ⟨by first | omega | (simp only [List.length_map, List.length_append, List.length_cons, List.length_nil, List.length_replicate, List.length_drop, List.length_take]; omega), by unfold maxLen; first | omega | (simp only [List.length_map, List.length_append, List.length_cons, List.length_nil, List.length_replicate, List.length_drop, List.length_take]; omega), ?_⟩)
    | (refine hK _ _ rfl ?_; clear hK K; try refine go1 ?_)
    | (refine am_retP rfl ?_ rfl; first | refine go ?_ | rfl)
    | (refine am_retC [] rfl ?_ rfl rfl; first | refine go ?_ | rfl)
    | (refine wkq ?_)
    | (refine am_rs tabOk kOk rfl fun K Q1 hK => ?_; refine go1 ?_)
    | (refine am_reg tabOk kOk rfl fun K Q1 hK => ?_; refine go1 ?_)
    | (refine am_ds mixed tabOk kOk rfl rfl fun K hK => ?_; refine go1 ?_)
    | (refine am_dreg mixed tabOk kOk rfl rfl fun K hK => ?_; refine go1 ?_)
  all_goals simp_all
theorem markMs_tc (kd fr to te li lt co ok hi : Int) (l : List Ent) (k : Int) (h0 : 0 ≤ k) (hk : k + 7 * (l.length : Nat) ≤ 1099511627776) : TC Tryd.prog 31 [.agg [ci kd, ci fr, ci to, ci te, ci li, ci lt, ci co, ci ok, ci hi, .own 1 0 l.length], int k] [(1, .arr 98 7 (l.map Ent.tr))] 2 (int (k + 7 * (l.length : Nat))) [(1, .arr 98 7 ((mkEs l.length k).map Ent.tr))] 2 := by
  refine tc_intro Tryd.func31 rfl 10 rfl (Nat.le_of_ble_eq_true rfl) (by decide) [4] rfl dom1 ?_
  intro w0 E0
  have kOk := k95
  have hp : ((0 ≤ k) = True) ∧ ((k + 7 * (l.length : Nat) ≤ 1099511627776) = True) := ⟨eq_true h0, eq_true hk⟩
  refine wk1 ?_
  refine am_retB [(1, 1)] rfl ?_ ?_ rfl <;> first | refine go ?_ | rfl
def kn96_0_1 (n : Int) (c : Ms) : Option TV := if c.es.length ≤ maxLen then some (int (if szEsF c.es n < 0 then -1 else szEsF c.es n)) else none
def kn96_0_0 (n : Int) (r0 : List CV) : Option TV := (unMs r0).bind (kn96_0_1 n)
def kn96_0 : List TV → Option TV
  | [.agg r0, .c (.t (.v (.int .i64 n)))] => kn96_0_0 n r0
  | _ => none
def kn96_1_2 (c : Ms) (d : Ms) : Option TV := if c.es.length ≤ 1048576 then some (bool (decide (c = d))) else none
def kn96_1_1 (r1 : List CV) (c : Ms) : Option TV := (unMs r1).bind (kn96_1_2 c)
def kn96_1_0 (r0 : List CV) (r1 : List CV) : Option TV := (unMs r0).bind (kn96_1_1 r1)
def kn96_1 : List TV → Option TV
  | [.agg r0, .agg r1] => kn96_1_0 r0 r1
  | _ => none
def kn96_call (f : FuncId) (args : List TV) : Option TV := if f = 26 then orO (kn96_0 args) (kn95.call f args) else if f = 30 then orO (kn96_1 args) (kn95.call f args) else kn95.call f args
def kn96 : Kn := { call := kn96_call, eqs := eqTys, callB := kn95.callB }
attribute [go_sem] kn96_0_0 kn96_0_1 kn96_0 kn96_1_0 kn96_1_1 kn96_1_2 kn96_1 kn96_call kn96
theorem kn96_ok : ∀ f args res, kn96_call f args = some res → TC Tryd.prog f args [] 1 res [] 1 := by
  intro f args res h
  unfold kn96_call at h
  split at h
  · rename_i e; subst e
    have hh := orO_elim h
    clear h
    rcases hh with h | h
    rotate_left
    · exact k95.call _ _ _ h
    unfold kn96_0 at h
    split at h
    · rename_i r0 n; unfold kn96_0_0 at h
      obtain ⟨c, e0, h⟩ := Option.bind_eq_some_iff.1 h
      unfold kn96_0_1 at h
      split at h
      · rename_i hc; cases h; rw [unMs_ok e0]; exact szMs_tc c n hc
      · cases h
    · cases h
  split at h
  · rename_i e; subst e
    have hh := orO_elim h
    clear h
    rcases hh with h | h
    rotate_left
    · exact k95.call _ _ _ h
    unfold kn96_1 at h
    split at h
    · rename_i r0 r1; unfold kn96_1_0 at h
      obtain ⟨c, e0, h⟩ := Option.bind_eq_some_iff.1 h
      unfold kn96_1_1 at h
      obtain ⟨d, e1, h⟩ := Option.bind_eq_some_iff.1 h
      unfold kn96_1_2 at h
      split at h
      · rename_i hc; cases h; rw [unMs_ok e0, unMs_ok e1]; exact eqMs_tc c d hc
      · cases h
    · cases h
  · exact k95.call f args res h
theorem k96 : KnOk Tryd.prog kn96 := ⟨kn96_ok, eqTysOk, k95.callB⟩
def kn97_0_1 (c : Ms) : CB := if c.es.length ≤ 1048576 then some (.agg [ci c.kd, ci c.fr, ci c.to, ci c.te, ci c.li, ci c.lt, ci c.co, ci c.ok, ci c.hi, .own 1 0 c.es.length], [(1, .arr 98 7 (c.es.map Ent.tr))], 2) else none
def kn97_0_0 (q0 : List CV) : CB := (unMs q0).bind (kn97_0_1)
def kn97_0 : List TV → List (Nat × AObj) → CB
  | [.agg q0], [] => kn97_0_0 q0
  | _, _ => none
def kn97_1_1 (kd : Int) (fr : Int) (to : Int) (te : Int) (li : Int) (lt : Int) (co : Int) (ok : Int) (hi : Int) (n : Nat) (k : Int) (l : List Ent) : CB := if n = l.length ∧ 0 ≤ k ∧ k + 7 * (l.length : Nat) ≤ 1099511627776 then some (int (k + 7 * (l.length : Nat)), [(1, .arr 98 7 ((mkEs l.length k).map Ent.tr))], 2) else none
def kn97_1_0 (kd : Int) (fr : Int) (to : Int) (te : Int) (li : Int) (lt : Int) (co : Int) (ok : Int) (hi : Int) (n : Nat) (k : Int) (r0 : List (List Tree)) : CB := (unEnts r0).bind (kn97_1_1 kd fr to te li lt co ok hi n k)
def kn97_1 : List TV → List (Nat × AObj) → CB
  | [.agg [.t (.v (.int .i64 kd)), .t (.v (.int .i64 fr)), .t (.v (.int .i64 to)), .t (.v (.int .i64 te)), .t (.v (.int .i64 li)), .t (.v (.int .i64 lt)), .t (.v (.int .i64 co)), .t (.v (.int .i64 ok)), .t (.v (.int .i64 hi)), .own 1 0 n], .c (.t (.v (.int .i64 k)))], [(1, .arr 98 7 r0)] => kn97_1_0 kd fr to te li lt co ok hi n k r0
  | _, _ => none
def kn97_call (f : FuncId) (args : List TV) (o : List (Nat × AObj)) : CB := if f = 28 then orO (kn97_0 args o) (kn96.callB f args o) else if f = 31 then orO (kn97_1 args o) (kn96.callB f args o) else kn96.callB f args o
def kn97 : Kn := { call := kn96.call, eqs := eqTys, callB := kn97_call }
attribute [go_sem] kn97_0_0 kn97_0_1 kn97_0 kn97_1_0 kn97_1_1 kn97_1 kn97_call kn97
theorem kn97_ok : ∀ f args o res o1 n1, kn97_call f args o = some (res, o1, n1) → TC Tryd.prog f args o (o.length + 1) res o1 n1 := by
  intro f args o res o1 n1 h
  unfold kn97_call at h
  split at h
  · rename_i e; subst e
    have hh := orO_elim h
    clear h
    rcases hh with h | h
    rotate_left
    · exact k96.callB _ _ _ _ _ _ h
    unfold kn97_0 at h
    split at h
    · rename_i q0; unfold kn97_0_0 at h
      have hb0 := Option.bind_eq_some_iff.1 h
      clear h
      obtain ⟨c, e0, h⟩ := hb0
      unfold kn97_0_1 at h
      split at h
      · rename_i hc; cases h; rw [unMs_ok e0]; exact toMs_tc c hc
      · cases h
    · cases h
  split at h
  · rename_i e; subst e
    have hh := orO_elim h
    clear h
    rcases hh with h | h
    rotate_left
    · exact k96.callB _ _ _ _ _ _ h
    unfold kn97_1 at h
    split at h
    · rename_i kd fr to te li lt co ok hi n k r0; unfold kn97_1_0 at h
      have hb0 := Option.bind_eq_some_iff.1 h
      clear h
      obtain ⟨l, e0, h⟩ := hb0
      unfold kn97_1_1 at h
      split at h
      · rename_i hc; cases h; rw [unEnts_ok e0]; obtain ⟨rfl, h1, h2⟩ := hc; exact markMs_tc kd fr to te li lt co ok hi l k h1 h2
      · cases h
    · cases h
  · exact k96.callB f args o res o1 n1 h
theorem k97 : KnOk Tryd.prog kn97 := ⟨k96.call, eqTysOk, kn97_ok⟩
def kn98_0_1 (r : Ms) : CB := if msF r = 0 then some (.c (.own 1 0 (frmL (msgW [r.kd] r)).length), [(1, .arr 5 1 ((frmL (msgW [r.kd] r)).map bTr))], 2) else none
def kn98_0_0 (r0 : List CV) : CB := (unMs r0).bind (kn98_0_1)
def kn98_0 : List TV → List (Nat × AObj) → CB
  | [.agg r0], [] => kn98_0_0 r0
  | _, _ => none
def kn98_1_1 (r : Ms) : CB := if msF r = 0 then some (.c (.own 1 0 (frmL (msgW [r.kd] r)).length), [(1, .arr 5 1 ((frmL (msgW [r.kd] r)).map bTr))], 2) else none
def kn98_1_0 (r0 : List CV) : CB := (unMs r0).bind (kn98_1_1)
def kn98_1 : List TV → List (Nat × AObj) → CB
  | [.agg r0], [] => kn98_1_0 r0
  | _, _ => none
def kn98_call (f : FuncId) (args : List TV) (o : List (Nat × AObj)) : CB := if f = 29 then orO (kn98_0 args o) (kn97.callB f args o) else if f = 27 then orO (kn98_1 args o) (kn97.callB f args o) else kn97.callB f args o
def kn98 : Kn := { call := kn97.call, eqs := eqTys, callB := kn98_call }
attribute [go_sem] kn98_0_0 kn98_0_1 kn98_0 kn98_1_0 kn98_1_1 kn98_1 kn98_call kn98
theorem kn98_ok : ∀ f args o res o1 n1, kn98_call f args o = some (res, o1, n1) → TC Tryd.prog f args o (o.length + 1) res o1 n1 := by
  intro f args o res o1 n1 h
  unfold kn98_call at h
  split at h
  · rename_i e; subst e
    have hh := orO_elim h
    clear h
    rcases hh with h | h
    rotate_left
    · exact k97.callB _ _ _ _ _ _ h
    unfold kn98_0 at h
    split at h
    · rename_i r0; unfold kn98_0_0 at h
      have hb0 := Option.bind_eq_some_iff.1 h
      clear h
      obtain ⟨r, e0, h⟩ := hb0
      unfold kn98_0_1 at h
      split at h
      · rename_i hc; cases h; rw [unMs_ok e0]; exact emI_tc r hc
      · cases h
    · cases h
  split at h
  · rename_i e; subst e
    have hh := orO_elim h
    clear h
    rcases hh with h | h
    rotate_left
    · exact k97.callB _ _ _ _ _ _ h
    unfold kn98_1 at h
    split at h
    · rename_i r0; unfold kn98_1_0 at h
      have hb0 := Option.bind_eq_some_iff.1 h
      clear h
      obtain ⟨r, e0, h⟩ := hb0
      unfold kn98_1_1 at h
      split at h
      · rename_i hc; cases h; rw [unMs_ok e0]; exact emS_tc r hc
      · cases h
    · cases h
  · exact k97.callB f args o res o1 n1 h
theorem k98 : KnOk Tryd.prog kn98 := ⟨k97.call, eqTysOk, kn98_ok⟩
def kn99_0_1 (r : Ms) : CB := if msF r ≠ 0 ∧ r.es.length ≤ 1048576 then some (lit (.slice none 0 0), [], 1) else none
def kn99_0_0 (r0 : List CV) : CB := (unMs r0).bind (kn99_0_1)
def kn99_0 : List TV → List (Nat × AObj) → CB
  | [.agg r0], [] => kn99_0_0 r0
  | _, _ => none
def kn99_1_1 (r : Ms) : CB := if msF r ≠ 0 ∧ r.es.length ≤ 1048576 then some (.c (.own 1 0 0), [(1, .arr 5 1 [])], 2) else none
def kn99_1_0 (r0 : List CV) : CB := (unMs r0).bind (kn99_1_1)
def kn99_1 : List TV → List (Nat × AObj) → CB
  | [.agg r0], [] => kn99_1_0 r0
  | _, _ => none
def kn99_call (f : FuncId) (args : List TV) (o : List (Nat × AObj)) : CB := if f = 29 then orO (kn99_0 args o) (kn97.callB f args o) else if f = 27 then orO (kn99_1 args o) (kn97.callB f args o) else kn97.callB f args o
def kn99 : Kn := { call := kn97.call, eqs := eqTys, callB := kn99_call }
attribute [go_sem] kn99_0_0 kn99_0_1 kn99_0 kn99_1_0 kn99_1_1 kn99_1 kn99_call kn99
theorem kn99_ok : ∀ f args o res o1 n1, kn99_call f args o = some (res, o1, n1) → TC Tryd.prog f args o (o.length + 1) res o1 n1 := by
  intro f args o res o1 n1 h
  unfold kn99_call at h
  split at h
  · rename_i e; subst e
    have hh := orO_elim h
    clear h
    rcases hh with h | h
    rotate_left
    · exact k97.callB _ _ _ _ _ _ h
    unfold kn99_0 at h
    split at h
    · rename_i r0; unfold kn99_0_0 at h
      have hb0 := Option.bind_eq_some_iff.1 h
      clear h
      obtain ⟨r, e0, h⟩ := hb0
      unfold kn99_0_1 at h
      split at h
      · rename_i hc; cases h; rw [unMs_ok e0]; exact emI0_tc r hc.1 hc.2
      · cases h
    · cases h
  split at h
  · rename_i e; subst e
    have hh := orO_elim h
    clear h
    rcases hh with h | h
    rotate_left
    · exact k97.callB _ _ _ _ _ _ h
    unfold kn99_1 at h
    split at h
    · rename_i r0; unfold kn99_1_0 at h
      have hb0 := Option.bind_eq_some_iff.1 h
      clear h
      obtain ⟨r, e0, h⟩ := hb0
      unfold kn99_1_1 at h
      split at h
      · rename_i hc; cases h; rw [unMs_ok e0]; exact emS0_tc r hc.1 hc.2
      · cases h
    · cases h
  · exact k97.callB f args o res o1 n1 h
theorem k99 : KnOk Tryd.prog kn99 := ⟨k97.call, eqTysOk, kn99_ok⟩
theorem szEs_len {l : List Ent} (hl : l.length ≤ maxLen) (h : ¬ szEsF l 1048576 < 0) : l.length ≤ 1048576 := by
  unfold maxLen at hl
  unfold szEsF at h
  split at h
  · omega
  · rename_i h2
    rw [IntKind.wrap_i64] at h2
    omega
set_option maxHeartbeats 32000000 in
theorem lawEncM_tc (r : Ms) (hm : r.es.length ≤ maxLen) : TC Tryd.prog 6 [.agg r.cv] [] 1 (bool true) [] 1 := by
  have hx : ∀ x : Int, (x != x) = false := fun x => by simp
  by_cases hz : szEsF r.es 1048576 < 0
  · obtain ⟨kd, fr, to, te, li, lt, co, ok, hi, es⟩ := r
    simp only at hz hm
    simp only [Ms.cv]
    refine tc_intro Tryd.func6 rfl 69 rfl (Nat.le_of_ble_eq_true rfl) (by decide) [2] rfl (by intro id x h; cases h) ?_
    intro w0 E0
    have kOk := k98
    have hp := (show (es.length ≤ maxLen) = True ∧ (szEsF es 1048576 < 0) = True ∧ ((-1 : Int) < 0) = True from ⟨eq_true hm, eq_true hz, by simp⟩)
    repeat' (fail_if_success (with_reducible apply amR_id)); first
      | (refine guardP_mk (fun h => ?_) (fun h => ?_) <;> (refine go1 ?_; try simp only [decide_eq_true_eq, decide_eq_false_iff_not, Bool.not_true, Bool.not_false, Bool.not_eq_true', Bool.not_eq_false', beq_iff_eq, bne_iff_ne, beq_eq_false_iff_ne, bne_eq_false_iff_eq, ne_eq, Bool.false_eq_true, reduceCtorEq] at h))
      | (refine hK _ ?_; clear hK K Q1)
      | (refine ⟨by first | omega | (simp only [List.length_map, List.length_append, List.length_cons, List.length_nil, List.length_replicate, List.length_drop, List.length_take]; omega), by unfold maxLen; first | omega | (simp only [List.length_map, List.length_append, List.length_cons, List.length_nil, List.length_replicate, List.length_drop, List.length_take]; omega), ?_⟩)
      | (refine hK _ _ rfl ?_; clear hK K; try refine go1 ?_)
      | (refine am_retP rfl ?_ rfl; first | refine go ?_ | rfl)
      | (refine am_retC [] rfl ?_ rfl rfl; first | refine go ?_ | rfl)
      | (refine wkq ?_)
      | (refine am_rs tabOk kOk rfl fun K Q1 hK => ?_; refine go1 ?_)
      | (refine am_reg tabOk kOk rfl fun K Q1 hK => ?_; refine go1 ?_)
      | (refine am_ds mixed tabOk kOk rfl rfl fun K hK => ?_; refine go1 ?_)
      | (refine am_dreg mixed tabOk kOk rfl rfl fun K hK => ?_; refine go1 ?_)
    all_goals rfl
  have hle := szEs_len hm hz
  by_cases h : msF r = 0
  · have hL : (frmL (msgW [r.kd] r)).length ≤ 10000 := by
      have := msgW_len h
      have l1 := fourL_len (msgW [r.kd] r).length
      have l2 := fourL_len (crcF (msgW [r.kd] r))
      unfold frmL
      simp only [List.length_append]
      omega
    obtain ⟨kd, fr, to, te, li, lt, co, ok, hi, es⟩ := r
    simp only at hz hm hle hL
    simp only [Ms.cv]
    refine tc_intro Tryd.func6 rfl 69 rfl (Nat.le_of_ble_eq_true rfl) (by decide) [2] rfl (by intro id x h; cases h) ?_
    intro w0 E0
    have kOk := k98
    generalize hW : frmL (msgW [kd] ⟨kd, fr, to, te, li, lt, co, ok, hi, es⟩) = W at hL
    have hp := (show msF ⟨kd, fr, to, te, li, lt, co, ok, hi, es⟩ = 0 ∧ (es.length ≤ maxLen) = True ∧ (szEsF es 1048576 < 0) = False ∧ (es.length ≤ 1048576) = True ∧ (1 + 7 * (es.length : Int) ≤ 1099511627776) = True ∧ (1 + 7 * (es.length : Int) < 0) = False ∧ frmL (msgW [kd] ⟨kd, fr, to, te, li, lt, co, ok, hi, es⟩) = W ∧ (∀ x : Int, (x != x) = false) ∧ (W.length ≤ 1048576) = True ∧ (mkBs W.length 1).length = W.length ∧ (1 + (W.length : Int) ≤ 1099511627776) = True ∧ ((0:Int) ≤ 1) = True ∧ (1 + (W.length : Int) < 0) = False ∧ ((-1 : Int) < 0) = True from ⟨h, eq_true hm, eq_false hz, eq_true hle, eq_true (by omega), eq_false (by omega), hW, hx, eq_true (by omega), mkBs_len _ _, eq_true (by omega), by simp, eq_false (by omega), by simp⟩)
    repeat' (fail_if_success (with_reducible apply amR_id)); first
      | (refine guardP_mk (fun h => ?_) (fun h => ?_) <;> (refine go1 ?_; try simp only [decide_eq_true_eq, decide_eq_false_iff_not, Bool.not_true, Bool.not_false, Bool.not_eq_true', Bool.not_eq_false', beq_iff_eq, bne_iff_ne, beq_eq_false_iff_ne, bne_eq_false_iff_eq, ne_eq, Bool.false_eq_true, reduceCtorEq] at h))
      | (refine hK _ ?_; clear hK K Q1)
      | (refine ⟨by first | omega | (simp only [List.length_map, List.length_append, List.length_cons, List.length_nil, List.length_replicate, List.length_drop, List.length_take]; omega), by unfold maxLen; first | omega | (simp only [List.length_map, List.length_append, List.length_cons, List.length_nil, List.length_replicate, List.length_drop, List.length_take]; omega), ?_⟩)
      | (refine hK _ _ rfl ?_; clear hK K; try refine go1 ?_)
      | (refine am_retP rfl ?_ rfl; first | refine go ?_ | rfl)
      | (refine am_retC [] rfl ?_ rfl rfl; first | refine go ?_ | rfl)
      | (refine wkq ?_)
      | (refine am_rs tabOk kOk rfl fun K Q1 hK => ?_; refine go1 ?_)
      | (refine am_reg tabOk kOk rfl fun K Q1 hK => ?_; refine go1 ?_)
      | (refine am_ds mixed tabOk kOk rfl rfl fun K hK => ?_; refine go1 ?_)
      | (refine am_dreg mixed tabOk kOk rfl rfl fun K hK => ?_; refine go1 ?_)
    all_goals rfl
  · obtain ⟨kd, fr, to, te, li, lt, co, ok, hi, es⟩ := r
    simp only at hz hm hle
    simp only [Ms.cv]
    refine tc_intro Tryd.func6 rfl 69 rfl (Nat.le_of_ble_eq_true rfl) (by decide) [2] rfl (by intro id x h; cases h) ?_
    intro w0 E0
    have kOk := k99
    have hp := (show (msF ⟨kd, fr, to, te, li, lt, co, ok, hi, es⟩ ≠ 0) = True ∧ (es.length ≤ maxLen) = True ∧ (szEsF es 1048576 < 0) = False ∧ (es.length ≤ 1048576) = True ∧ (1 + 7 * (es.length : Int) ≤ 1099511627776) = True ∧ (1 + 7 * (es.length : Int) < 0) = False ∧ (∀ x : Int, (x != x) = false) ∧ ((0:Int) ≤ 1) = True ∧ ((1 : Int) < 0) = False ∧ ((-1 : Int) < 0) = True from ⟨eq_true h, eq_true hm, eq_false hz, eq_true hle, eq_true (by omega), eq_false (by omega), hx, by simp, by simp, by simp⟩)
    repeat' (fail_if_success (with_reducible apply amR_id)); first
      | (refine guardP_mk (fun h => ?_) (fun h => ?_) <;> (refine go1 ?_; try simp only [decide_eq_true_eq, decide_eq_false_iff_not, Bool.not_true, Bool.not_false, Bool.not_eq_true', Bool.not_eq_false', beq_iff_eq, bne_iff_ne, beq_eq_false_iff_ne, bne_eq_false_iff_eq, ne_eq, Bool.false_eq_true, reduceCtorEq] at h))
      | (refine hK _ ?_; clear hK K Q1)
      | (refine ⟨by first | omega | (simp only [List.length_map, List.length_append, List.length_cons, List.length_nil, List.length_replicate, List.length_drop, List.length_take]; omega), by unfold maxLen; first | omega | (simp only [List.length_map, List.length_append, List.length_cons, List.length_nil, List.length_replicate, List.length_drop, List.length_take]; omega), ?_⟩)
      | (refine hK _ _ rfl ?_; clear hK K; try refine go1 ?_)
      | (refine am_retP rfl ?_ rfl; first | refine go ?_ | rfl)
      | (refine am_retC [] rfl ?_ rfl rfl; first | refine go ?_ | rfl)
      | (refine wkq ?_)
      | (refine am_rs tabOk kOk rfl fun K Q1 hK => ?_; refine go1 ?_)
      | (refine am_reg tabOk kOk rfl fun K Q1 hK => ?_; refine go1 ?_)
      | (refine am_ds mixed tabOk kOk rfl rfl fun K hK => ?_; refine go1 ?_)
      | (refine am_dreg mixed tabOk kOk rfl rfl fun K hK => ?_; refine go1 ?_)
    all_goals rfl
theorem op_Ent : OpT Tryd.prog (fun xs => ∃ c : Ent, xs = c.tr) 92 := by
  refine opT_weak (opT_struct Tryd.underlying92 (by kernel_rfl) (opT_cons (s := 1) rfl (by kernel_rfl) (opT_int Tryd.underlying3) (opT_cons (s := 6) rfl (by kernel_rfl) (opT_struct Tryd.underlying33 (by kernel_rfl) (opT_cons (s := 1) rfl (by kernel_rfl) (opT_int Tryd.underlying3) (opT_cons (s := 1) rfl (by kernel_rfl) (opT_int Tryd.underlying3) (opT_cons (s := 1) rfl (by kernel_rfl) (opT_int Tryd.underlying3) (opT_cons (s := 1) rfl (by kernel_rfl) (opT_string Tryd.underlying9) (opT_cons (s := 1) rfl (by kernel_rfl) (opT_string Tryd.underlying9) (opT_cons (s := 1) rfl (by kernel_rfl) (opT_string Tryd.underlying9) opT_nil))))))) opT_nil))) ?_
  rintro xs ⟨_, _, rfl, ⟨a2, rfl, _⟩, ⟨_, _, rfl, ⟨_, _, rfl, ⟨a4, rfl, _⟩, ⟨_, _, rfl, ⟨a5, rfl, _⟩, ⟨_, _, rfl, ⟨a6, rfl, _⟩, ⟨_, _, rfl, ⟨a7, rfl, _⟩, ⟨_, _, rfl, ⟨a8, rfl, _⟩, ⟨_, _, rfl, ⟨a9, rfl, _⟩, rfl⟩⟩⟩⟩⟩⟩, rfl⟩⟩
  exact ⟨⟨a2, ⟨a4, a5, a6, a7, a8, a9⟩⟩, rfl⟩
theorem op_Ms : OpT Tryd.prog (fun xs => ∃ c : Ms, xs.map CV.t = c.cv ∧ c.es.length ≤ maxLen) 49 := by
  refine opT_weak (opT_struct Tryd.underlying49 (by kernel_rfl) (opT_cons (s := 1) rfl (by kernel_rfl) (opT_int Tryd.underlying3) (opT_cons (s := 1) rfl (by kernel_rfl) (opT_int Tryd.underlying3) (opT_cons (s := 1) rfl (by kernel_rfl) (opT_int Tryd.underlying3) (opT_cons (s := 1) rfl (by kernel_rfl) (opT_int Tryd.underlying3) (opT_cons (s := 1) rfl (by kernel_rfl) (opT_int Tryd.underlying3) (opT_cons (s := 1) rfl (by kernel_rfl) (opT_int Tryd.underlying3) (opT_cons (s := 1) rfl (by kernel_rfl) (opT_int Tryd.underlying3) (opT_cons (s := 1) rfl (by kernel_rfl) (opT_int Tryd.underlying3) (opT_cons (s := 1) rfl (by kernel_rfl) (opT_int Tryd.underlying3) (opT_cons (s := 1) rfl (by kernel_rfl) (opT_rows (tr := Ent.tr) (sz := 7) Tryd.underlying47 (by kernel_rfl) (by decide) op_Ent) opT_nil))))))))))) ?_
  rintro xs ⟨_, _, rfl, ⟨a2, rfl, _⟩, ⟨_, _, rfl, ⟨a3, rfl, _⟩, ⟨_, _, rfl, ⟨a4, rfl, _⟩, ⟨_, _, rfl, ⟨a5, rfl, _⟩, ⟨_, _, rfl, ⟨a6, rfl, _⟩, ⟨_, _, rfl, ⟨a7, rfl, _⟩, ⟨_, _, rfl, ⟨a8, rfl, _⟩, ⟨_, _, rfl, ⟨a9, rfl, _⟩, ⟨_, _, rfl, ⟨a10, rfl, _⟩, ⟨_, _, rfl, ⟨a11, rfl, ha11⟩, rfl⟩⟩⟩⟩⟩⟩⟩⟩⟩⟩
  exact ⟨⟨a2, a3, a4, a5, a6, a7, a8, a9, a10, a11⟩, rfl, ha11⟩
end Go.Proofs.YtaolgdpkcbfocaaDoorA
