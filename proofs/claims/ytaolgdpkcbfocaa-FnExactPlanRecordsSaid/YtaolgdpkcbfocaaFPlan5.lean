/- Records that lead from one state to another: the law holds at every argument. -/
import Derived.Test.YtaolgdpkcbfocaaFPlan2T
import Derived.Test.YtaolgdpkcbfocaaFPlan3T
import Derived.Test.YtaolgdpkcbfocaaAmFrz
namespace Go.Proofs.YtaolgdpkcbfocaaA
open Go.Proofs
set_option autoImplicit false
set_option linter.unusedVariables false
set_option linter.unusedSimpArgs false
set_option maxRecDepth 4000
/-- An answer, its records read. -/
structure Pl where
  code : Int
  rs : List Rec
deriving instance DecidableEq for Pl
def Pl.cv (c : Pl) : List CV := [ci c.code, .t (.sl 11 (c.rs.map Rec.tr))]
def unPl : List CV → Option Pl
  | [.t (.v (.int .i64 c)), .t (.sl 11 xs)] => (unRecs xs).map (Pl.mk c)
  | _ => none
theorem unPl_ok {xs : List CV} {c : Pl} (h : unPl xs = some c) : xs = c.cv := by
  unfold unPl at h
  split at h
  · rename_i ys
    cases hy : unRecs ys with
    | none => rw [hy] at h; cases h
    | some l => rw [hy] at h; cases h; rw [unRecs_ok hy]; rfl
  · cases h
/-- No records. -/
structure Pz where
  code : Int
deriving instance DecidableEq for Pz
def Pz.cv (c : Pz) : List CV := [ci c.code, .t (.v (.slice none 0 0))]
def unPz : List CV → Option Pz
  | [.t (.v (.int .i64 c)), .t (.v (.slice none 0 0))] => some ⟨c⟩
  | _ => none
theorem unPz_ok {xs : List CV} {c : Pz} (h : unPz xs = some c) : xs = c.cv := by
  unfold unPz at h
  split at h
  · cases h; rfl
  · cases h
attribute [go_sem] unPl unPz Pl.cv Pz.cv
def kn43_0_2 (l : List Rec) (r : List Rec) : Option TV := if l.length ≤ 1048576 then some (bool (decide (l = r))) else none
def kn43_0_1 (r1 : List (List Tree)) (l : List Rec) : Option TV := (unRecs r1).bind (kn43_0_2 l)
def kn43_0_0 (r0 : List (List Tree)) (r1 : List (List Tree)) : Option TV := (unRecs r0).bind (kn43_0_1 r1)
def kn43_0 : List TV → Option TV
  | [.c (.t (.sl 11 r0)), .c (.t (.sl 11 r1))] => kn43_0_0 r0 r1
  | _ => none
def kn43_1_1 (k : Int) (l : List Rec) : Option TV := if l = mkRs l.length k ∧ 0 ≤ k ∧ k + 11 * (l.length : Nat) ≤ 1099511627776 then some (int (k + 11 * (l.length : Nat))) else none
def kn43_1_0 (k : Int) (r0 : List (List Tree)) : Option TV := (unRecs r0).bind (kn43_1_1 k)
def kn43_1 : List TV → Option TV
  | [.c (.t (.sl 11 r0)), .c (.t (.v (.int .i64 k)))] => kn43_1_0 k r0
  | _ => none
def kn43_call (f : FuncId) (args : List TV) : Option TV := if f = 46 then orO (kn43_0 args) (kn42.call f args) else if f = 50 then orO (kn43_1 args) (kn42.call f args) else kn42.call f args
def kn43 : Kn := { call := kn43_call, eqs := eqTys, callB := kn42.callB }
attribute [go_sem] kn43_0_0 kn43_0_1 kn43_0_2 kn43_0 kn43_1_0 kn43_1_1 kn43_1 kn43_call kn43
theorem kn43_ok : ∀ f args res, kn43_call f args = some res → TC Try.prog f args [] 1 res [] 1 := by
  intro f args res h
  unfold kn43_call at h
  split at h
  · rename_i e; subst e
    have hh := orO_elim h
    clear h
    rcases hh with h | h
    rotate_left
    · exact k42.call _ _ _ h
    unfold kn43_0 at h
    split at h
    · rename_i r0 r1; unfold kn43_0_0 at h
      obtain ⟨l, e0, h⟩ := Option.bind_eq_some_iff.1 h
      unfold kn43_0_1 at h
      obtain ⟨r, e1, h⟩ := Option.bind_eq_some_iff.1 h
      unfold kn43_0_2 at h
      split at h
      · rename_i hc; cases h; rw [unRecs_ok e0, unRecs_ok e1]; exact eqRecs_tc l r hc
      · cases h
    · cases h
  split at h
  · rename_i e; subst e
    have hh := orO_elim h
    clear h
    rcases hh with h | h
    rotate_left
    · exact k42.call _ _ _ h
    unfold kn43_1 at h
    split at h
    · rename_i r0 k; unfold kn43_1_0 at h
      obtain ⟨l, e0, h⟩ := Option.bind_eq_some_iff.1 h
      unfold kn43_1_1 at h
      split at h
      · rename_i hc; cases h; rw [unRecs_ok e0]; exact (by rw [hc.1]; rw [mkRs_len]; exact heldRs_tc l.length k hc.2.1 hc.2.2)
      · cases h
    · cases h
  · exact k42.call f args res h
theorem k43 : KnOk Try.prog kn43 := ⟨kn43_ok, eqTysOk, k42.callB⟩
theorem eqPl_tc (c : Pl) (hl : c.rs.length ≤ 1048576) : TC Try.prog 17 [.agg c.cv, .agg c.cv] [] 1 (bool true) [] 1 := by
  refine tc_intro Try.func17 rfl 16 rfl (Nat.le_of_ble_eq_true rfl) (by decide) [4] rfl (by intro id x h; cases h) ?_
  intro w0 E0
  have kOk := k43
  obtain ⟨co, rs⟩ := c
  have hp : ((rs.length ≤ 1048576) = True) ∧ (∀ x : Int, (x != x) = false) := ⟨eq_true hl, fun x => by simp⟩
  simp only [Pl.cv]
  repeat' (fail_if_success (with_reducible apply amR_id)); first
    | (refine guardP_mk (fun h => ?_) (fun h => ?_) <;> (refine go1 ?_; try simp only [decide_eq_true_eq, decide_eq_false_iff_not, Bool.not_true, Bool.not_false, Bool.not_eq_true', Bool.not_eq_false', beq_iff_eq, bne_iff_ne, beq_eq_false_iff_ne, bne_eq_false_iff_eq, ne_eq, Bool.false_eq_true, reduceCtorEq] at h))
    | (refine hK _ ?_; clear hK K Q1)
    | (refine ⟨by first | omega | (simp only [List.length_map, List.length_append, List.length_cons, List.length_nil, List.length_replicate, List.length_drop, List.length_take]; omega), by unfold maxLen; first | omega | (simp only [List.length_map, List.length_append, List.length_cons, List.length_nil, List.length_replicate, List.length_drop, List.length_take]; omega), ?_⟩)
    | (refine hK _ _ rfl ?_; clear hK K; try refine go1 ?_)
    | (refine am_retP rfl ?_ rfl; first | refine go ?_ | rfl)
    | (refine am_retC [] rfl ?_ rfl rfl; first | refine go ?_ | rfl)
    | (refine wkq ?_)
    | (refine am_rs tabOk kOk rfl fun K Q1 hK => ?_; refine go1 ?_)
    | (refine am_ds mixed tabOk kOk rfl rfl fun K hK => ?_; refine go1 ?_)
    | (refine am_dreg mixed tabOk kOk rfl rfl fun K hK => ?_; refine go1 ?_)
  all_goals rfl
theorem eqPz_tc (c : Pz) : TC Try.prog 17 [.agg c.cv, .agg c.cv] [] 1 (bool true) [] 1 := by
  refine tc_intro Try.func17 rfl 16 rfl (Nat.le_of_ble_eq_true rfl) (by decide) [4] rfl (by intro id x h; cases h) ?_
  intro w0 E0
  have kOk := k43
  obtain ⟨co⟩ := c
  have hp : (∀ x : Int, (x != x) = false) := fun x => by simp
  simp only [Pz.cv]
  repeat' (fail_if_success (with_reducible apply amR_id)); first
    | (refine guardP_mk (fun h => ?_) (fun h => ?_) <;> (refine go1 ?_; try simp only [decide_eq_true_eq, decide_eq_false_iff_not, Bool.not_true, Bool.not_false, Bool.not_eq_true', Bool.not_eq_false', beq_iff_eq, bne_iff_ne, beq_eq_false_iff_ne, bne_eq_false_iff_eq, ne_eq, Bool.false_eq_true, reduceCtorEq] at h))
    | (refine hK _ ?_; clear hK K Q1)
    | (refine ⟨by first | omega | (simp only [List.length_map, List.length_append, List.length_cons, List.length_nil, List.length_replicate, List.length_drop, List.length_take]; omega), by unfold maxLen; first | omega | (simp only [List.length_map, List.length_append, List.length_cons, List.length_nil, List.length_replicate, List.length_drop, List.length_take]; omega), ?_⟩)
    | (refine hK _ _ rfl ?_; clear hK K; try refine go1 ?_)
    | (refine am_retP rfl ?_ rfl; first | refine go ?_ | rfl)
    | (refine am_retC [] rfl ?_ rfl rfl; first | refine go ?_ | rfl)
    | (refine wkq ?_)
    | (refine am_rs tabOk kOk rfl fun K Q1 hK => ?_; refine go1 ?_)
    | (refine am_ds mixed tabOk kOk rfl rfl fun K hK => ?_; refine go1 ?_)
    | (refine am_dreg mixed tabOk kOk rfl rfl fun K hK => ?_; refine go1 ?_)
  all_goals rfl
theorem heldPl_tc (c : Pl) (k : Int) (hm : c.rs = mkRs c.rs.length k) (h0 : 0 ≤ k) (hk : k + 11 * (c.rs.length : Nat) ≤ 1099511627776) : TC Try.prog 21 [.agg c.cv, int k] [] 1 (int (k + 11 * (c.rs.length : Nat))) [] 1 := by
  refine tc_intro Try.func21 rfl 12 rfl (Nat.le_of_ble_eq_true rfl) (by decide) [4] rfl (by intro id x h; cases h) ?_
  intro w0 E0
  have kOk := k43
  obtain ⟨co, l⟩ := c
  have hm' : l = mkRs l.length k := hm
  have hk' : k + 11 * (l.length : Nat) ≤ 1099511627776 := hk
  have hp : ((l = mkRs l.length k) = True) ∧ ((0 ≤ k) = True) ∧ ((k + 11 * (l.length : Nat) ≤ 1099511627776) = True) ∧ ((k + 11 * (l.length : Nat) < 0) = False) := ⟨eq_true hm', eq_true h0, eq_true hk', eq_false (by omega)⟩
  simp only [Pl.cv]
  repeat' (fail_if_success (with_reducible apply amR_id)); first
    | (refine guardP_mk (fun h => ?_) (fun h => ?_) <;> (refine go1 ?_; try simp only [decide_eq_true_eq, decide_eq_false_iff_not, Bool.not_true, Bool.not_false, Bool.not_eq_true', Bool.not_eq_false', beq_iff_eq, bne_iff_ne, beq_eq_false_iff_ne, bne_eq_false_iff_eq, ne_eq, Bool.false_eq_true, reduceCtorEq] at h))
    | (refine hK _ ?_; clear hK K Q1)
    | (refine ⟨by first | omega | (simp only [List.length_map, List.length_append, List.length_cons, List.length_nil, List.length_replicate, List.length_drop, List.length_take]; omega), by unfold maxLen; first | omega | (simp only [List.length_map, List.length_append, List.length_cons, List.length_nil, List.length_replicate, List.length_drop, List.length_take]; omega), ?_⟩)
    | (refine hK _ _ rfl ?_; clear hK K; try refine go1 ?_)
    | (refine am_retP rfl ?_ rfl; first | refine go ?_ | rfl)
    | (refine am_retC [] rfl ?_ rfl rfl; first | refine go ?_ | rfl)
    | (refine wkq ?_)
    | (refine am_rs tabOk kOk rfl fun K Q1 hK => ?_; refine go1 ?_)
    | (refine am_ds mixed tabOk kOk rfl rfl fun K hK => ?_; refine go1 ?_)
    | (refine am_dreg mixed tabOk kOk rfl rfl fun K hK => ?_; refine go1 ?_)
  all_goals rfl
theorem heldPz_tc (c : Pz) (k : Int) (h0 : 0 ≤ k) : TC Try.prog 21 [.agg c.cv, int k] [] 1 (int k) [] 1 := by
  refine tc_intro Try.func21 rfl 12 rfl (Nat.le_of_ble_eq_true rfl) (by decide) [4] rfl (by intro id x h; cases h) ?_
  intro w0 E0
  have kOk := k43
  obtain ⟨co⟩ := c
  have hp : (k < 0) = False := eq_false (by omega)
  simp only [Pz.cv]
  repeat' (fail_if_success (with_reducible apply amR_id)); first
    | (refine guardP_mk (fun h => ?_) (fun h => ?_) <;> (refine go1 ?_; try simp only [decide_eq_true_eq, decide_eq_false_iff_not, Bool.not_true, Bool.not_false, Bool.not_eq_true', Bool.not_eq_false', beq_iff_eq, bne_iff_ne, beq_eq_false_iff_ne, bne_eq_false_iff_eq, ne_eq, Bool.false_eq_true, reduceCtorEq] at h))
    | (refine hK _ ?_; clear hK K Q1)
    | (refine ⟨by first | omega | (simp only [List.length_map, List.length_append, List.length_cons, List.length_nil, List.length_replicate, List.length_drop, List.length_take]; omega), by unfold maxLen; first | omega | (simp only [List.length_map, List.length_append, List.length_cons, List.length_nil, List.length_replicate, List.length_drop, List.length_take]; omega), ?_⟩)
    | (refine hK _ _ rfl ?_; clear hK K; try refine go1 ?_)
    | (refine am_retP rfl ?_ rfl; first | refine go ?_ | rfl)
    | (refine am_retC [] rfl ?_ rfl rfl; first | refine go ?_ | rfl)
    | (refine wkq ?_)
    | (refine am_rs tabOk kOk rfl fun K Q1 hK => ?_; refine go1 ?_)
    | (refine am_ds mixed tabOk kOk rfl rfl fun K hK => ?_; refine go1 ?_)
    | (refine am_dreg mixed tabOk kOk rfl rfl fun K hK => ?_; refine go1 ?_)
  all_goals rfl
theorem markPz_tc (c : Pz) (k : Int) : TC Try.prog 20 [.agg c.cv, int k] [] 1 (int k) [] 1 := by
  refine tc_intro Try.func20 rfl 10 rfl (Nat.le_of_ble_eq_true rfl) (by decide) [4] rfl (by intro id x h; cases h) ?_
  intro w0 E0
  have kOk := k43
  obtain ⟨co⟩ := c
  simp only [Pz.cv]
  repeat' (fail_if_success (with_reducible apply amR_id)); first
    | (refine guardP_mk (fun h => ?_) (fun h => ?_) <;> (refine go ?_; try simp only [decide_eq_true_eq, decide_eq_false_iff_not, Bool.not_true, Bool.not_false, Bool.not_eq_true', Bool.not_eq_false', beq_iff_eq, bne_iff_ne, beq_eq_false_iff_ne, bne_eq_false_iff_eq, ne_eq, Bool.false_eq_true, reduceCtorEq] at h))
    | (refine hK _ ?_; clear hK K Q1)
    | (refine ⟨by first | omega | (simp only [List.length_map, List.length_append, List.length_cons, List.length_nil, List.length_replicate, List.length_drop, List.length_take]; omega), by unfold maxLen; first | omega | (simp only [List.length_map, List.length_append, List.length_cons, List.length_nil, List.length_replicate, List.length_drop, List.length_take]; omega), ?_⟩)
    | (refine hK _ _ rfl ?_; clear hK K; try refine go ?_)
    | (refine am_retP rfl ?_ rfl; first | refine go ?_ | rfl)
    | (refine am_retC [] rfl ?_ rfl rfl; first | refine go ?_ | rfl)
    | (refine wkp ?_)
    | (refine am_rs tabOk kOk rfl fun K Q1 hK => ?_; refine go ?_)
    | (refine am_ds mixed tabOk kOk rfl rfl fun K hK => ?_; refine go ?_)
    | (refine am_dreg mixed tabOk kOk rfl rfl fun K hK => ?_; refine go ?_)
  all_goals rfl
theorem markPl_tc (co : Int) (l : List Rec) (k : Int) (h0 : 0 ≤ k) (hk : k + 11 * (l.length : Nat) ≤ 1099511627776) : TC Try.prog 20 [.agg [ci co, .own 1 0 l.length], int k] [(1, .arr 89 11 (l.map Rec.tr))] 2 (int (k + 11 * (l.length : Nat))) [(1, .arr 89 11 ((mkRs l.length k).map Rec.tr))] 2 := by
  refine tc_intro Try.func20 rfl 10 rfl (Nat.le_of_ble_eq_true rfl) (by decide) [4] rfl dom1 ?_
  intro w0 E0
  have kOk := k43
  have hp : ((0 ≤ k) = True) ∧ ((k + 11 * (l.length : Nat) ≤ 1099511627776) = True) := ⟨eq_true h0, eq_true hk⟩
  refine wk1 ?_
  refine am_retB [(1, 1)] rfl ?_ ?_ rfl <;> first | refine go ?_ | rfl
def kn44_0_2 (c : Pl) (d : Pl) : Option TV := if c = d ∧ c.rs.length ≤ 1048576 then some (bool true) else none
def kn44_0_1 (r1 : List CV) (c : Pl) : Option TV := (unPl r1).bind (kn44_0_2 c)
def kn44_0_0 (r0 : List CV) (r1 : List CV) : Option TV := (unPl r0).bind (kn44_0_1 r1)
def kn44_0 : List TV → Option TV
  | [.agg r0, .agg r1] => kn44_0_0 r0 r1
  | _ => none
def kn44_1_1 (k : Int) (c : Pl) : Option TV := if c.rs = mkRs c.rs.length k ∧ 0 ≤ k ∧ k + 11 * (c.rs.length : Nat) ≤ 1099511627776 then some (int (k + 11 * (c.rs.length : Nat))) else none
def kn44_1_0 (k : Int) (r0 : List CV) : Option TV := (unPl r0).bind (kn44_1_1 k)
def kn44_1 : List TV → Option TV
  | [.agg r0, .c (.t (.v (.int .i64 k)))] => kn44_1_0 k r0
  | _ => none
def kn44_2_1 (k : Int) (c : Pz) : Option TV := some (int k)
def kn44_2_0 (k : Int) (r0 : List CV) : Option TV := (unPz r0).bind (kn44_2_1 k)
def kn44_2 : List TV → Option TV
  | [.agg r0, .c (.t (.v (.int .i64 k)))] => kn44_2_0 k r0
  | _ => none
def kn44_call (f : FuncId) (args : List TV) : Option TV := if f = 17 then orO (kn44_0 args) (kn43.call f args) else if f = 21 then orO (kn44_1 args) (kn43.call f args) else if f = 20 then orO (kn44_2 args) (kn43.call f args) else kn43.call f args
def kn44 : Kn := { call := kn44_call, eqs := eqTys, callB := kn43.callB }
attribute [go_sem] kn44_0_0 kn44_0_1 kn44_0_2 kn44_0 kn44_1_0 kn44_1_1 kn44_1 kn44_2_0 kn44_2_1 kn44_2 kn44_call kn44
theorem kn44_ok : ∀ f args res, kn44_call f args = some res → TC Try.prog f args [] 1 res [] 1 := by
  intro f args res h
  unfold kn44_call at h
  split at h
  · rename_i e; subst e
    have hh := orO_elim h
    clear h
    rcases hh with h | h
    rotate_left
    · exact k43.call _ _ _ h
    unfold kn44_0 at h
    split at h
    · rename_i r0 r1; unfold kn44_0_0 at h
      obtain ⟨c, e0, h⟩ := Option.bind_eq_some_iff.1 h
      unfold kn44_0_1 at h
      obtain ⟨d, e1, h⟩ := Option.bind_eq_some_iff.1 h
      unfold kn44_0_2 at h
      split at h
      · rename_i hc; cases h; rw [unPl_ok e0, unPl_ok e1]; exact (by rw [hc.1]; exact eqPl_tc d (hc.1 ▸ hc.2))
      · cases h
    · cases h
  split at h
  · rename_i e; subst e
    have hh := orO_elim h
    clear h
    rcases hh with h | h
    rotate_left
    · exact k43.call _ _ _ h
    unfold kn44_1 at h
    split at h
    · rename_i r0 k; unfold kn44_1_0 at h
      obtain ⟨c, e0, h⟩ := Option.bind_eq_some_iff.1 h
      unfold kn44_1_1 at h
      split at h
      · rename_i hc; cases h; rw [unPl_ok e0]; exact heldPl_tc c k hc.1 hc.2.1 hc.2.2
      · cases h
    · cases h
  split at h
  · rename_i e; subst e
    have hh := orO_elim h
    clear h
    rcases hh with h | h
    rotate_left
    · exact k43.call _ _ _ h
    unfold kn44_2 at h
    split at h
    · rename_i r0 k; unfold kn44_2_0 at h
      obtain ⟨c, e0, h⟩ := Option.bind_eq_some_iff.1 h
      unfold kn44_2_1 at h
      cases h; rw [unPz_ok e0]; exact markPz_tc c k
    · cases h
  · exact k43.call f args res h
theorem k44 : KnOk Try.prog kn44 := ⟨kn44_ok, eqTysOk, k43.callB⟩
def kn45_0_2 (c : Pz) (d : Pz) : Option TV := if c = d then some (bool true) else none
def kn45_0_1 (r1 : List CV) (c : Pz) : Option TV := (unPz r1).bind (kn45_0_2 c)
def kn45_0_0 (r0 : List CV) (r1 : List CV) : Option TV := (unPz r0).bind (kn45_0_1 r1)
def kn45_0 : List TV → Option TV
  | [.agg r0, .agg r1] => kn45_0_0 r0 r1
  | _ => none
def kn45_1_1 (k : Int) (c : Pz) : Option TV := if 0 ≤ k then some (int k) else none
def kn45_1_0 (k : Int) (r0 : List CV) : Option TV := (unPz r0).bind (kn45_1_1 k)
def kn45_1 : List TV → Option TV
  | [.agg r0, .c (.t (.v (.int .i64 k)))] => kn45_1_0 k r0
  | _ => none
def kn45_call (f : FuncId) (args : List TV) : Option TV := if f = 17 then orO (kn45_0 args) (kn44.call f args) else if f = 21 then orO (kn45_1 args) (kn44.call f args) else kn44.call f args
def kn45 : Kn := { call := kn45_call, eqs := eqTys, callB := kn44.callB }
attribute [go_sem] kn45_0_0 kn45_0_1 kn45_0_2 kn45_0 kn45_1_0 kn45_1_1 kn45_1 kn45_call kn45
theorem kn45_ok : ∀ f args res, kn45_call f args = some res → TC Try.prog f args [] 1 res [] 1 := by
  intro f args res h
  unfold kn45_call at h
  split at h
  · rename_i e; subst e
    have hh := orO_elim h
    clear h
    rcases hh with h | h
    rotate_left
    · exact k44.call _ _ _ h
    unfold kn45_0 at h
    split at h
    · rename_i r0 r1; unfold kn45_0_0 at h
      obtain ⟨c, e0, h⟩ := Option.bind_eq_some_iff.1 h
      unfold kn45_0_1 at h
      obtain ⟨d, e1, h⟩ := Option.bind_eq_some_iff.1 h
      unfold kn45_0_2 at h
      split at h
      · rename_i hc; cases h; rw [unPz_ok e0, unPz_ok e1]; exact (by rw [hc]; exact eqPz_tc d)
      · cases h
    · cases h
  split at h
  · rename_i e; subst e
    have hh := orO_elim h
    clear h
    rcases hh with h | h
    rotate_left
    · exact k44.call _ _ _ h
    unfold kn45_1 at h
    split at h
    · rename_i r0 k; unfold kn45_1_0 at h
      obtain ⟨c, e0, h⟩ := Option.bind_eq_some_iff.1 h
      unfold kn45_1_1 at h
      split at h
      · rename_i hc; cases h; rw [unPz_ok e0]; exact heldPz_tc c k hc
      · cases h
    · cases h
  · exact k44.call f args res h
theorem k45 : KnOk Try.prog kn45 := ⟨kn45_ok, eqTysOk, k44.callB⟩
def kn46_0_1 (c : Stb) : CB := if c.log.length ≤ 1048576 then some (.agg [ci c.term, ci c.vote, .own 1 0 c.log.length], [(1, .arr 87 7 (c.log.map Ent.tr))], 2) else none
def kn46_0_0 (r0 : List CV) : CB := (unStb r0).bind (kn46_0_1)
def kn46_0 : List TV → List (Nat × AObj) → CB
  | [.agg r0], [] => kn46_0_0 r0
  | _, _ => none
def kn46_1_1 (t : Int) (v : Int) (n : Nat) (k : Int) (l : List Ent) : CB := if n = l.length ∧ 0 ≤ k ∧ k + 7 * (l.length : Nat) ≤ 1099511627776 then some (int (k + 7 * (l.length : Nat)), [(1, .arr 87 7 ((mkEs l.length k).map Ent.tr))], 2) else none
def kn46_1_0 (t : Int) (v : Int) (n : Nat) (k : Int) (r0 : List (List Tree)) : CB := (unEnts r0).bind (kn46_1_1 t v n k)
def kn46_1 : List TV → List (Nat × AObj) → CB
  | [.agg [.t (.v (.int .i64 t)), .t (.v (.int .i64 v)), .own 1 0 n], .c (.t (.v (.int .i64 k)))], [(1, .arr 87 7 r0)] => kn46_1_0 t v n k r0
  | _, _ => none
def kn46_2_1 (co : Int) (n : Nat) (k : Int) (l : List Rec) : CB := if n = l.length ∧ 0 ≤ k ∧ k + 11 * (l.length : Nat) ≤ 1099511627776 then some (int (k + 11 * (l.length : Nat)), [(1, .arr 89 11 ((mkRs l.length k).map Rec.tr))], 2) else none
def kn46_2_0 (co : Int) (n : Nat) (k : Int) (r0 : List (List Tree)) : CB := (unRecs r0).bind (kn46_2_1 co n k)
def kn46_2 : List TV → List (Nat × AObj) → CB
  | [.agg [.t (.v (.int .i64 co)), .own 1 0 n], .c (.t (.v (.int .i64 k)))], [(1, .arr 89 11 r0)] => kn46_2_0 co n k r0
  | _, _ => none
def kn46_3_2 (t : Int) (v : Int) (n : Nat) (t2 : Int) (v2 : Int) (n2 : Nat) (l : List Ent) (l2 : List Ent) : CB := if n = l.length ∧ n2 = l2.length ∧ l.length ≤ 1048576 ∧ l2.length ≤ 1048576 then some (planR ⟨t, v, l⟩ ⟨t2, v2, l2⟩) else none
def kn46_3_1 (t : Int) (v : Int) (n : Nat) (t2 : Int) (v2 : Int) (n2 : Nat) (r1 : List (List Tree)) (l : List Ent) : CB := (unEnts r1).bind (kn46_3_2 t v n t2 v2 n2 l)
def kn46_3_0 (t : Int) (v : Int) (n : Nat) (t2 : Int) (v2 : Int) (n2 : Nat) (r0 : List (List Tree)) (r1 : List (List Tree)) : CB := (unEnts r0).bind (kn46_3_1 t v n t2 v2 n2 r1)
def kn46_3 : List TV → List (Nat × AObj) → CB
  | [.agg [.t (.v (.int .i64 t)), .t (.v (.int .i64 v)), .own 1 0 n], .agg [.t (.v (.int .i64 t2)), .t (.v (.int .i64 v2)), .own 2 0 n2]], [(1, .arr 87 7 r0), (2, .arr 87 7 r1)] => kn46_3_0 t v n t2 v2 n2 r0 r1
  | _, _ => none
def kn46_4_2 (t : Int) (v : Int) (n : Nat) (t2 : Int) (v2 : Int) (n2 : Nat) (l : List Ent) (l2 : List Ent) : CB := if n = l.length ∧ n2 = l2.length ∧ l.length ≤ 1048576 ∧ l2.length ≤ 1048576 then some (planR ⟨t, v, l⟩ ⟨t2, v2, l2⟩) else none
def kn46_4_1 (t : Int) (v : Int) (n : Nat) (t2 : Int) (v2 : Int) (n2 : Nat) (r1 : List (List Tree)) (l : List Ent) : CB := (unEnts r1).bind (kn46_4_2 t v n t2 v2 n2 l)
def kn46_4_0 (t : Int) (v : Int) (n : Nat) (t2 : Int) (v2 : Int) (n2 : Nat) (r0 : List (List Tree)) (r1 : List (List Tree)) : CB := (unEnts r0).bind (kn46_4_1 t v n t2 v2 n2 r1)
def kn46_4 : List TV → List (Nat × AObj) → CB
  | [.agg [.t (.v (.int .i64 t)), .t (.v (.int .i64 v)), .own 1 0 n], .agg [.t (.v (.int .i64 t2)), .t (.v (.int .i64 v2)), .own 2 0 n2]], [(1, .arr 87 7 r0), (2, .arr 87 7 r1)] => kn46_4_0 t v n t2 v2 n2 r0 r1
  | _, _ => none
def kn46_call (f : FuncId) (args : List TV) (o : List (Nat × AObj)) : CB := if f = 15 then orO (kn46_0 args o) (kn45.callB f args o) else if f = 19 then orO (kn46_1 args o) (kn45.callB f args o) else if f = 20 then orO (kn46_2 args o) (kn45.callB f args o) else if f = 16 then orO (kn46_3 args o) (kn45.callB f args o) else if f = 14 then orO (kn46_4 args o) (kn45.callB f args o) else kn45.callB f args o
def kn46 : Kn := { call := kn45.call, eqs := eqTys, callB := kn46_call }
attribute [go_sem] kn46_0_0 kn46_0_1 kn46_0 kn46_1_0 kn46_1_1 kn46_1 kn46_2_0 kn46_2_1 kn46_2 kn46_3_0 kn46_3_1 kn46_3_2 kn46_3 kn46_4_0 kn46_4_1 kn46_4_2 kn46_4 kn46_call kn46
theorem kn46_ok : ∀ f args o res o1 n1, kn46_call f args o = some (res, o1, n1) → TC Try.prog f args o (o.length + 1) res o1 n1 := by
  intro f args o res o1 n1 h
  unfold kn46_call at h
  split at h
  · rename_i e; subst e
    have hh := orO_elim h
    clear h
    rcases hh with h | h
    rotate_left
    · exact k45.callB _ _ _ _ _ _ h
    unfold kn46_0 at h
    split at h
    · rename_i r0; unfold kn46_0_0 at h
      have hb0 := Option.bind_eq_some_iff.1 h
      clear h
      obtain ⟨c, e0, h⟩ := hb0
      unfold kn46_0_1 at h
      split at h
      · rename_i hc; cases h; rw [unStb_ok e0]; exact toSt_tc c hc
      · cases h
    · cases h
  split at h
  · rename_i e; subst e
    have hh := orO_elim h
    clear h
    rcases hh with h | h
    rotate_left
    · exact k45.callB _ _ _ _ _ _ h
    unfold kn46_1 at h
    split at h
    · rename_i t v n k r0; unfold kn46_1_0 at h
      have hb0 := Option.bind_eq_some_iff.1 h
      clear h
      obtain ⟨l, e0, h⟩ := hb0
      unfold kn46_1_1 at h
      split at h
      · rename_i hc; cases h; rw [unEnts_ok e0]; obtain ⟨rfl, h1, h2⟩ := hc; exact markSt_tc t v l k h1 h2
      · cases h
    · cases h
  split at h
  · rename_i e; subst e
    have hh := orO_elim h
    clear h
    rcases hh with h | h
    rotate_left
    · exact k45.callB _ _ _ _ _ _ h
    unfold kn46_2 at h
    split at h
    · rename_i co n k r0; unfold kn46_2_0 at h
      have hb0 := Option.bind_eq_some_iff.1 h
      clear h
      obtain ⟨l, e0, h⟩ := hb0
      unfold kn46_2_1 at h
      split at h
      · rename_i hc; cases h; rw [unRecs_ok e0]; obtain ⟨rfl, h1, h2⟩ := hc; exact markPl_tc co l k h1 h2
      · cases h
    · cases h
  split at h
  · rename_i e; subst e
    have hh := orO_elim h
    clear h
    rcases hh with h | h
    rotate_left
    · exact k45.callB _ _ _ _ _ _ h
    unfold kn46_3 at h
    split at h
    · rename_i t v n t2 v2 n2 r0 r1; unfold kn46_3_0 at h
      have hb0 := Option.bind_eq_some_iff.1 h
      clear h
      obtain ⟨l, e0, h⟩ := hb0
      unfold kn46_3_1 at h
      have hb1 := Option.bind_eq_some_iff.1 h
      clear h
      obtain ⟨l2, e1, h⟩ := hb1
      unfold kn46_3_2 at h
      split at h
      · rename_i hc; obtain ⟨rfl, rfl, h1, h2⟩ := hc; have h3 := planRI ⟨t, v, l⟩ ⟨t2, v2, l2⟩ h1 h2; rw [Option.some.inj h] at h3; rw [unEnts_ok e0, unEnts_ok e1]; exact h3
      · cases h
    · cases h
  split at h
  · rename_i e; subst e
    have hh := orO_elim h
    clear h
    rcases hh with h | h
    rotate_left
    · exact k45.callB _ _ _ _ _ _ h
    unfold kn46_4 at h
    split at h
    · rename_i t v n t2 v2 n2 r0 r1; unfold kn46_4_0 at h
      have hb0 := Option.bind_eq_some_iff.1 h
      clear h
      obtain ⟨l, e0, h⟩ := hb0
      unfold kn46_4_1 at h
      have hb1 := Option.bind_eq_some_iff.1 h
      clear h
      obtain ⟨l2, e1, h⟩ := hb1
      unfold kn46_4_2 at h
      split at h
      · rename_i hc; obtain ⟨rfl, rfl, h1, h2⟩ := hc; have h3 := planRS ⟨t, v, l⟩ ⟨t2, v2, l2⟩ h1 h2; rw [Option.some.inj h] at h3; rw [unEnts_ok e0, unEnts_ok e1]; exact h3
      · cases h
    · cases h
  · exact k45.callB f args o res o1 n1 h
theorem k46 : KnOk Try.prog kn46 := ⟨k45.call, eqTysOk, kn46_ok⟩
attribute [go_sem] planR
abbrev Ent.ok (e : Ent) : Prop := e.m.k.size ≤ maxLen ∧ e.m.v.size ≤ maxLen ∧ e.m.o.size ≤ maxLen
theorem lft_eq {left : Int} {n : Nat} (h0 : 0 ≤ left) (h1 : left ≤ 1048576) (hn : n ≤ maxLen) : lft left n = if (n : Int) ≤ left then left - n else -1 := by
  unfold maxLen at hn
  unfold lft
  have hw : IntKind.i64.wrap (left - n) = left - n := by rw [IntKind.wrap_i64]; omega
  rw [hw]
  split <;> split <;> omega
theorem szE_le {e : Ent} {s : Int} (h0 : 0 ≤ s) (h1 : s ≤ 1048576) (ho : e.ok) : szE e s < 0 ∨ (0 ≤ szE e s ∧ szE e s ≤ s) := by
  obtain ⟨a, b, c⟩ := ho
  have ha := lft_eq h0 h1 a
  unfold szE szCmF
  by_cases h2 : (e.m.k.size : Int) ≤ s
  · rw [if_pos h2] at ha
    rw [ha]
    have hb := lft_eq (left := s - e.m.k.size) (by omega) (by omega) b
    by_cases h3 : (e.m.v.size : Int) ≤ s - e.m.k.size
    · rw [if_pos h3] at hb
      rw [hb]
      have hc := lft_eq (left := s - e.m.k.size - e.m.v.size) (by omega) (by omega) c
      rw [hc]
      (repeat' split) <;> omega
    · rw [if_neg h3] at hb
      rw [hb]
      (repeat' split) <;> omega
  · rw [if_neg h2] at ha
    rw [ha]
    (repeat' split) <;> omega
theorem szGo_le : ∀ {l : List Ent} {s : Int}, 0 ≤ s → s ≤ 1048576 → (∀ e, e ∈ l → e.ok) → szGo l s < 0 ∨ (0 ≤ szGo l s ∧ szGo l s ≤ s)
  | [], s, h0, _, _ => .inr ⟨h0, Int.le_refl s⟩
  | e :: l, s, h0, h1, ho => by
    have h2 := szE_le h0 h1 (ho e List.mem_cons_self)
    simp only [szGo]
    split
    · exact .inl (by omega)
    · rcases h2 with h2 | ⟨h2, h3⟩
      · omega
      · have := szGo_le (l := l) h2 (by omega) fun x hx => ho x (List.mem_cons_of_mem _ hx)
        omega
theorem szEsF_le {l : List Ent} {s : Int} (h0 : 0 ≤ s) (h1 : s ≤ 1048576) (hl : l.length ≤ maxLen) (ho : ∀ e, e ∈ l → e.ok) : szEsF l s < 0 ∨ (0 ≤ szEsF l s ∧ szEsF l s ≤ s ∧ (l.length : Int) ≤ s) := by
  unfold maxLen at hl
  unfold szEsF
  have hw : IntKind.i64.wrap (s - l.length) = s - l.length := by rw [IntKind.wrap_i64]; omega
  rw [hw]
  split
  · exact .inl (by omega)
  · have := szGo_le (l := l) (s := s - l.length) (by omega) (by omega) ho
    omega
def kn47_0_2 (c : Stb) (d : Stb) : CB := if c.log.length ≤ 1048576 ∧ d.log.length ≤ 1048576 then some (.c (.own 1 0 (recL c d).length), [(1, .arr 89 11 ((recL c d).map Rec.tr))], 2) else none
def kn47_0_1 (q1 : List CV) (c : Stb) : CB := (unStb q1).bind (kn47_0_2 c)
def kn47_0_0 (q0 : List CV) (q1 : List CV) : CB := (unStb q0).bind (kn47_0_1 q1)
def kn47_0 : List TV → List (Nat × AObj) → CB
  | [.agg q0, .agg q1], [] => kn47_0_0 q0 q1
  | _, _ => none
def kn47_call (f : FuncId) (args : List TV) (o : List (Nat × AObj)) : CB := if f = 45 then orO (kn47_0 args o) (kn42.callB f args o) else kn42.callB f args o
def kn47 : Kn := { call := kn42.call, eqs := eqTys, callB := kn47_call }
attribute [go_sem] kn47_0_0 kn47_0_1 kn47_0_2 kn47_0 kn47_call kn47
theorem kn47_ok : ∀ f args o res o1 n1, kn47_call f args o = some (res, o1, n1) → TC Try.prog f args o (o.length + 1) res o1 n1 := by
  intro f args o res o1 n1 h
  unfold kn47_call at h
  split at h
  · rename_i e; subst e
    have hh := orO_elim h
    clear h
    rcases hh with h | h
    rotate_left
    · exact k42.callB _ _ _ _ _ _ h
    unfold kn47_0 at h
    split at h
    · rename_i q0 q1; unfold kn47_0_0 at h
      have hb0 := Option.bind_eq_some_iff.1 h
      clear h
      obtain ⟨c, e0, h⟩ := hb0
      unfold kn47_0_1 at h
      have hb1 := Option.bind_eq_some_iff.1 h
      clear h
      obtain ⟨d, e1, h⟩ := hb1
      unfold kn47_0_2 at h
      split at h
      · rename_i hc; cases h; rw [unStb_ok e0, unStb_ok e1]; exact planIT_tc c d hc.1 hc.2
      · cases h
    · cases h
  · exact k42.callB f args o res o1 n1 h
theorem k47 : KnOk Try.prog kn47 := ⟨k42.call, eqTysOk, kn47_ok⟩
set_option maxHeartbeats 16000000 in
theorem planS_noT (s u : Stb) (hl : s.log.length ≤ 1048576) (hl2 : u.log.length ≤ 1048576) (h : planC s u ≠ 0) : TC Try.prog 14 [.agg s.cv, .agg u.cv] [] 1 (.agg [ci (planC s u), .t (.v (.slice none 0 0))]) [] 1 := by
  obtain ⟨t, v, l⟩ := s
  obtain ⟨t', v', l'⟩ := u
  simp only at hl hl2
  simp only [Stb.cv]
  by_cases h1 : stF ⟨t, v, l⟩ = false
  · have e : planC ⟨t, v, l⟩ ⟨t', v', l'⟩ = 1 := if_pos h1
    rw [e]
    refine tc_cell tabOk Try.func14 rfl 102 rfl (Nat.le_of_ble_eq_true rfl) (by decide) [(4, some 51)] rfl (by intro id x h; cases h) ?_
    intro w0 E0
    have kOk := k42
    have hp := (show (l.length ≤ 1048576) = True ∧ (l'.length ≤ 1048576) = True ∧ stF ⟨t, v, l⟩ = false from ⟨eq_true hl, eq_true hl2, h1⟩)
    repeat' (fail_if_success (with_reducible apply amR_id)); first
      | (refine guardP_mk (fun h => ?_) (fun h => ?_) <;> (refine go1 ?_; try simp only [decide_eq_true_eq, decide_eq_false_iff_not, Bool.not_true, Bool.not_false, Bool.not_eq_true', Bool.not_eq_false', beq_iff_eq, bne_iff_ne, beq_eq_false_iff_ne, bne_eq_false_iff_eq, ne_eq, Bool.false_eq_true, reduceCtorEq] at h))
      | (refine hK _ ?_; clear hK K Q1)
      | (refine ⟨by first | omega | (simp only [List.length_map, List.length_append, List.length_cons, List.length_nil, List.length_replicate, List.length_drop, List.length_take]; omega), by unfold maxLen; first | omega | (simp only [List.length_map, List.length_append, List.length_cons, List.length_nil, List.length_replicate, List.length_drop, List.length_take]; omega), ?_⟩)
      | (refine hK _ _ rfl ?_; clear hK K; try refine go1 ?_)
      | (refine am_retC [] rfl ?_ rfl rfl; first | refine go ?_ | rfl)
      | (refine am_retB [] rfl ?_ ?_ rfl <;> first | refine go ?_ | rfl)
      | (refine wkq ?_)
      | (refine am_rs tabOk kOk rfl fun K Q1 hK => ?_; refine go1 ?_)
      | (refine am_ds mixed tabOk kOk rfl rfl fun K hK => ?_; refine go1 ?_)
      | (refine am_dreg mixed tabOk kOk rfl rfl fun K hK => ?_; refine go1 ?_)
    all_goals first | rfl | (exfalso; clear hp; simp only [fitB, fitR, decide_eq_false_iff_not, decide_eq_true_eq, noEnt] at *; omega)
  by_cases h2 : stF ⟨t', v', l'⟩ = false
  · have e : planC ⟨t, v, l⟩ ⟨t', v', l'⟩ = 2 := (if_neg h1).trans (if_pos h2)
    rw [e]
    refine tc_cell tabOk Try.func14 rfl 102 rfl (Nat.le_of_ble_eq_true rfl) (by decide) [(4, some 51)] rfl (by intro id x h; cases h) ?_
    intro w0 E0
    have kOk := k42
    have hp := (show (l.length ≤ 1048576) = True ∧ (l'.length ≤ 1048576) = True ∧ stF ⟨t, v, l⟩ = true ∧ stF ⟨t', v', l'⟩ = false from ⟨eq_true hl, eq_true hl2, by simpa using h1, h2⟩)
    repeat' (fail_if_success (with_reducible apply amR_id)); first
      | (refine guardP_mk (fun h => ?_) (fun h => ?_) <;> (refine go1 ?_; try simp only [decide_eq_true_eq, decide_eq_false_iff_not, Bool.not_true, Bool.not_false, Bool.not_eq_true', Bool.not_eq_false', beq_iff_eq, bne_iff_ne, beq_eq_false_iff_ne, bne_eq_false_iff_eq, ne_eq, Bool.false_eq_true, reduceCtorEq] at h))
      | (refine hK _ ?_; clear hK K Q1)
      | (refine ⟨by first | omega | (simp only [List.length_map, List.length_append, List.length_cons, List.length_nil, List.length_replicate, List.length_drop, List.length_take]; omega), by unfold maxLen; first | omega | (simp only [List.length_map, List.length_append, List.length_cons, List.length_nil, List.length_replicate, List.length_drop, List.length_take]; omega), ?_⟩)
      | (refine hK _ _ rfl ?_; clear hK K; try refine go1 ?_)
      | (refine am_retC [] rfl ?_ rfl rfl; first | refine go ?_ | rfl)
      | (refine am_retB [] rfl ?_ ?_ rfl <;> first | refine go ?_ | rfl)
      | (refine wkq ?_)
      | (refine am_rs tabOk kOk rfl fun K Q1 hK => ?_; refine go1 ?_)
      | (refine am_ds mixed tabOk kOk rfl rfl fun K hK => ?_; refine go1 ?_)
      | (refine am_dreg mixed tabOk kOk rfl rfl fun K hK => ?_; refine go1 ?_)
    all_goals first | rfl | (exfalso; clear hp; simp only [fitB, fitR, decide_eq_false_iff_not, decide_eq_true_eq, noEnt] at *; omega)
  by_cases h3 : fitB ⟨t, v, l⟩ ⟨t', v', l'⟩ = false
  · have e : planC ⟨t, v, l⟩ ⟨t', v', l'⟩ = 3 := (if_neg h1).trans ((if_neg h2).trans (if_pos h3))
    rw [e]
    refine tc_cell tabOk Try.func14 rfl 102 rfl (Nat.le_of_ble_eq_true rfl) (by decide) [(4, some 51)] rfl (by intro id x h; cases h) ?_
    intro w0 E0
    have kOk := k42
    have hp := (show (l.length ≤ 1048576) = True ∧ (l'.length ≤ 1048576) = True ∧ stF ⟨t, v, l⟩ = true ∧ stF ⟨t', v', l'⟩ = true ∧ fitR ⟨t, v, l⟩ ⟨1, t', v', 0, ⟨0, ⟨0, 0, 0, ⟨#[]⟩, ⟨#[]⟩, ⟨#[]⟩⟩⟩⟩ = false from ⟨eq_true hl, eq_true hl2, by simpa using h1, by simpa using h2, h3⟩)
    repeat' (fail_if_success (with_reducible apply amR_id)); first
      | (refine guardP_mk (fun h => ?_) (fun h => ?_) <;> (refine go1 ?_; try simp only [decide_eq_true_eq, decide_eq_false_iff_not, Bool.not_true, Bool.not_false, Bool.not_eq_true', Bool.not_eq_false', beq_iff_eq, bne_iff_ne, beq_eq_false_iff_ne, bne_eq_false_iff_eq, ne_eq, Bool.false_eq_true, reduceCtorEq] at h))
      | (refine hK _ ?_; clear hK K Q1)
      | (refine ⟨by first | omega | (simp only [List.length_map, List.length_append, List.length_cons, List.length_nil, List.length_replicate, List.length_drop, List.length_take]; omega), by unfold maxLen; first | omega | (simp only [List.length_map, List.length_append, List.length_cons, List.length_nil, List.length_replicate, List.length_drop, List.length_take]; omega), ?_⟩)
      | (refine hK _ _ rfl ?_; clear hK K; try refine go1 ?_)
      | (refine am_retC [] rfl ?_ rfl rfl; first | refine go ?_ | rfl)
      | (refine am_retB [] rfl ?_ ?_ rfl <;> first | refine go ?_ | rfl)
      | (refine wkq ?_)
      | (refine am_rs tabOk kOk rfl fun K Q1 hK => ?_; refine go1 ?_)
      | (refine am_ds mixed tabOk kOk rfl rfl fun K hK => ?_; refine go1 ?_)
      | (refine am_dreg mixed tabOk kOk rfl rfl fun K hK => ?_; refine go1 ?_)
    all_goals first | rfl | (exfalso; clear hp; simp only [fitB, fitR, decide_eq_false_iff_not, decide_eq_true_eq, noEnt] at *; omega)
  · exact absurd ((if_neg h1).trans ((if_neg h2).trans (if_neg h3))) h

set_option maxHeartbeats 16000000 in
theorem planI_noT (s u : Stb) (hl : s.log.length ≤ 1048576) (hl2 : u.log.length ≤ 1048576) (h : planC s u ≠ 0) : TC Try.prog 16 [.agg s.cv, .agg u.cv] [] 1 (.agg [ci (planC s u), .t (.v (.slice none 0 0))]) [] 1 := by
  obtain ⟨t, v, l⟩ := s
  obtain ⟨t', v', l'⟩ := u
  simp only at hl hl2
  simp only [Stb.cv]
  by_cases h1 : stF ⟨t, v, l⟩ = false
  · have e : planC ⟨t, v, l⟩ ⟨t', v', l'⟩ = 1 := if_pos h1
    rw [e]
    refine tc_cell tabOk Try.func16 rfl 42 rfl (Nat.le_of_ble_eq_true rfl) (by decide) [(4, some 51)] rfl (by intro id x h; cases h) ?_
    intro w0 E0
    have kOk := k42
    have hp := (show (l.length ≤ 1048576) = True ∧ (l'.length ≤ 1048576) = True ∧ stF ⟨t, v, l⟩ = false from ⟨eq_true hl, eq_true hl2, h1⟩)
    repeat' (fail_if_success (with_reducible apply amR_id)); first
      | (refine guardP_mk (fun h => ?_) (fun h => ?_) <;> (refine go1 ?_; try simp only [decide_eq_true_eq, decide_eq_false_iff_not, Bool.not_true, Bool.not_false, Bool.not_eq_true', Bool.not_eq_false', beq_iff_eq, bne_iff_ne, beq_eq_false_iff_ne, bne_eq_false_iff_eq, ne_eq, Bool.false_eq_true, reduceCtorEq] at h))
      | (refine hK _ ?_; clear hK K Q1)
      | (refine ⟨by first | omega | (simp only [List.length_map, List.length_append, List.length_cons, List.length_nil, List.length_replicate, List.length_drop, List.length_take]; omega), by unfold maxLen; first | omega | (simp only [List.length_map, List.length_append, List.length_cons, List.length_nil, List.length_replicate, List.length_drop, List.length_take]; omega), ?_⟩)
      | (refine hK _ _ rfl ?_; clear hK K; try refine go1 ?_)
      | (refine am_retC [] rfl ?_ rfl rfl; first | refine go ?_ | rfl)
      | (refine am_retB [] rfl ?_ ?_ rfl <;> first | refine go ?_ | rfl)
      | (refine wkq ?_)
      | (refine am_rs tabOk kOk rfl fun K Q1 hK => ?_; refine go1 ?_)
      | (refine am_ds mixed tabOk kOk rfl rfl fun K hK => ?_; refine go1 ?_)
      | (refine am_dreg mixed tabOk kOk rfl rfl fun K hK => ?_; refine go1 ?_)
    all_goals first | rfl | (exfalso; clear hp; simp only [fitB, fitR, decide_eq_false_iff_not, decide_eq_true_eq, noEnt] at *; omega)
  by_cases h2 : stF ⟨t', v', l'⟩ = false
  · have e : planC ⟨t, v, l⟩ ⟨t', v', l'⟩ = 2 := (if_neg h1).trans (if_pos h2)
    rw [e]
    refine tc_cell tabOk Try.func16 rfl 42 rfl (Nat.le_of_ble_eq_true rfl) (by decide) [(4, some 51)] rfl (by intro id x h; cases h) ?_
    intro w0 E0
    have kOk := k42
    have hp := (show (l.length ≤ 1048576) = True ∧ (l'.length ≤ 1048576) = True ∧ stF ⟨t, v, l⟩ = true ∧ stF ⟨t', v', l'⟩ = false from ⟨eq_true hl, eq_true hl2, by simpa using h1, h2⟩)
    repeat' (fail_if_success (with_reducible apply amR_id)); first
      | (refine guardP_mk (fun h => ?_) (fun h => ?_) <;> (refine go1 ?_; try simp only [decide_eq_true_eq, decide_eq_false_iff_not, Bool.not_true, Bool.not_false, Bool.not_eq_true', Bool.not_eq_false', beq_iff_eq, bne_iff_ne, beq_eq_false_iff_ne, bne_eq_false_iff_eq, ne_eq, Bool.false_eq_true, reduceCtorEq] at h))
      | (refine hK _ ?_; clear hK K Q1)
      | (refine ⟨by first | omega | (simp only [List.length_map, List.length_append, List.length_cons, List.length_nil, List.length_replicate, List.length_drop, List.length_take]; omega), by unfold maxLen; first | omega | (simp only [List.length_map, List.length_append, List.length_cons, List.length_nil, List.length_replicate, List.length_drop, List.length_take]; omega), ?_⟩)
      | (refine hK _ _ rfl ?_; clear hK K; try refine go1 ?_)
      | (refine am_retC [] rfl ?_ rfl rfl; first | refine go ?_ | rfl)
      | (refine am_retB [] rfl ?_ ?_ rfl <;> first | refine go ?_ | rfl)
      | (refine wkq ?_)
      | (refine am_rs tabOk kOk rfl fun K Q1 hK => ?_; refine go1 ?_)
      | (refine am_ds mixed tabOk kOk rfl rfl fun K hK => ?_; refine go1 ?_)
      | (refine am_dreg mixed tabOk kOk rfl rfl fun K hK => ?_; refine go1 ?_)
    all_goals first | rfl | (exfalso; clear hp; simp only [fitB, fitR, decide_eq_false_iff_not, decide_eq_true_eq, noEnt] at *; omega)
  by_cases h3 : fitB ⟨t, v, l⟩ ⟨t', v', l'⟩ = false
  · have e : planC ⟨t, v, l⟩ ⟨t', v', l'⟩ = 3 := (if_neg h1).trans ((if_neg h2).trans (if_pos h3))
    rw [e]
    refine tc_cell tabOk Try.func16 rfl 42 rfl (Nat.le_of_ble_eq_true rfl) (by decide) [(4, some 51)] rfl (by intro id x h; cases h) ?_
    intro w0 E0
    have kOk := k42
    have hp := (show (l.length ≤ 1048576) = True ∧ (l'.length ≤ 1048576) = True ∧ stF ⟨t, v, l⟩ = true ∧ stF ⟨t', v', l'⟩ = true from ⟨eq_true hl, eq_true hl2, by simpa using h1, by simpa using h2⟩)
    repeat' (fail_if_success (with_reducible apply amR_id)); first
      | (refine guardP_mk (fun h => ?_) (fun h => ?_) <;> (refine go1 ?_; try simp only [decide_eq_true_eq, decide_eq_false_iff_not, Bool.not_true, Bool.not_false, Bool.not_eq_true', Bool.not_eq_false', beq_iff_eq, bne_iff_ne, beq_eq_false_iff_ne, bne_eq_false_iff_eq, ne_eq, Bool.false_eq_true, reduceCtorEq] at h))
      | (refine hK _ ?_; clear hK K Q1)
      | (refine ⟨by first | omega | (simp only [List.length_map, List.length_append, List.length_cons, List.length_nil, List.length_replicate, List.length_drop, List.length_take]; omega), by unfold maxLen; first | omega | (simp only [List.length_map, List.length_append, List.length_cons, List.length_nil, List.length_replicate, List.length_drop, List.length_take]; omega), ?_⟩)
      | (refine hK _ _ rfl ?_; clear hK K; try refine go1 ?_)
      | (refine am_retC [] rfl ?_ rfl rfl; first | refine go ?_ | rfl)
      | (refine am_retB [] rfl ?_ ?_ rfl <;> first | refine go ?_ | rfl)
      | (refine wkq ?_)
      | (refine am_rs tabOk kOk rfl fun K Q1 hK => ?_; refine go1 ?_)
      | (refine am_ds mixed tabOk kOk rfl rfl fun K hK => ?_; refine go1 ?_)
      | (refine am_dreg mixed tabOk kOk rfl rfl fun K hK => ?_; refine go1 ?_)
    all_goals first | rfl | (exfalso; clear hp; simp only [fitB, fitR, decide_eq_false_iff_not, decide_eq_true_eq, noEnt] at *; omega)
  · exact absurd ((if_neg h1).trans ((if_neg h2).trans (if_neg h3))) h

set_option maxHeartbeats 16000000 in
theorem planI_okT (s u : Stb) (hl : s.log.length ≤ 1048576) (hl2 : u.log.length ≤ 1048576) (h : planC s u = 0) : TC Try.prog 16 [.agg s.cv, .agg u.cv] [] 1 (.agg [ci 0, .own 1 0 (recL s u).length]) [(1, .arr 89 11 ((recL s u).map Rec.tr))] 2 := by
  obtain ⟨t, v, l⟩ := s
  obtain ⟨t', v', l'⟩ := u
  simp only at hl hl2
  simp only [Stb.cv]
  obtain ⟨h1, h2, h3⟩ := planC0 h
  refine tc_cell tabOk Try.func16 rfl 42 rfl (Nat.le_of_ble_eq_true rfl) (by decide) [(4, some 51)] rfl (by intro id x h; cases h) ?_
  intro w0 E0
  have kOk := k47
  have hp := (show (l.length ≤ 1048576) = True ∧ (l'.length ≤ 1048576) = True ∧ stF ⟨t, v, l⟩ = true ∧ stF ⟨t', v', l'⟩ = true from ⟨eq_true hl, eq_true hl2, h1, h2⟩)
  repeat' (fail_if_success (with_reducible apply amR_id)); first
    | (refine guardP_mk (fun h => ?_) (fun h => ?_) <;> (refine go1 ?_; try simp only [decide_eq_true_eq, decide_eq_false_iff_not, Bool.not_true, Bool.not_false, Bool.not_eq_true', Bool.not_eq_false', beq_iff_eq, bne_iff_ne, beq_eq_false_iff_ne, bne_eq_false_iff_eq, ne_eq, Bool.false_eq_true, reduceCtorEq] at h))
    | (refine hK _ ?_; clear hK K Q1)
    | (refine ⟨by first | omega | (simp only [List.length_map, List.length_append, List.length_cons, List.length_nil, List.length_replicate, List.length_drop, List.length_take]; omega), by unfold maxLen; first | omega | (simp only [List.length_map, List.length_append, List.length_cons, List.length_nil, List.length_replicate, List.length_drop, List.length_take]; omega), ?_⟩)
    | (refine hK _ _ rfl ?_; clear hK K; try refine go1 ?_)
    | (refine am_retC [(4, 1)] rfl ?_ rfl rfl; first | refine go ?_ | rfl)
    | (refine am_retB [(4, 1)] rfl ?_ ?_ rfl <;> first | refine go ?_ | rfl)
    | (refine wkq ?_)
    | (refine am_rs tabOk kOk rfl fun K Q1 hK => ?_; refine go1 ?_)
    | (refine am_ds mixed tabOk kOk rfl rfl fun K hK => ?_; refine go1 ?_)
    | (refine am_dreg mixed tabOk kOk rfl rfl fun K hK => ?_; refine go1 ?_)
  all_goals first | rfl | (exfalso; clear hp; simp only [fitB, decide_eq_true_eq] at *; omega)
/-- The answer, its records only read. -/
def planV (s u : Stb) : List CV := if planC s u = 0 then [ci 0, .t (.sl 11 ((recL s u).map Rec.tr))] else [ci (planC s u), .t (.v (.slice none 0 0))]
theorem planSV (s u : Stb) (hl : s.log.length ≤ 1048576) (hl2 : u.log.length ≤ 1048576) : TC Try.prog 14 [.agg s.cv, .agg u.cv] [] 1 (.agg (planV s u)) [] 1 := by
  by_cases h : planC s u = 0
  · rw [show planV s u = _ from if_pos h]
    obtain ⟨h1, h2, h3⟩ := planC0 h
    exact tc_freeze (xs := [.v (.int .i64 0)]) (planST_ok s u hl hl2 h1 h2 h3) (by simp)
  · rw [show planV s u = _ from if_neg h]
    exact planS_noT s u hl hl2 h
theorem planIV (s u : Stb) (hl : s.log.length ≤ 1048576) (hl2 : u.log.length ≤ 1048576) : TC Try.prog 16 [.agg s.cv, .agg u.cv] [] 1 (.agg (planV s u)) [] 1 := by
  by_cases h : planC s u = 0
  · rw [show planV s u = _ from if_pos h]
    exact tc_freeze (xs := [.v (.int .i64 0)]) (planI_okT s u hl hl2 h) (by simp)
  · rw [show planV s u = _ from if_neg h]
    exact planI_noT s u hl hl2 h
theorem toStV (c : Stb) (hl : c.log.length ≤ 1048576) : TC Try.prog 15 [.agg c.cv] [] 1 (.agg c.cv) [] 1 :=
  tc_freeze (xs := [.v (.int .i64 c.term), .v (.int .i64 c.vote)]) (toSt_tc c hl) (by simp)
def kn48_0_1 (c : Stb) : Option TV := if c.log.length ≤ 1048576 then some (.agg c.cv) else none
def kn48_0_0 (r0 : List CV) : Option TV := (unStb r0).bind (kn48_0_1)
def kn48_0 : List TV → Option TV
  | [.agg r0] => kn48_0_0 r0
  | _ => none
def kn48_1_2 (c : Stb) (d : Stb) : Option TV := if c.log.length ≤ 1048576 ∧ d.log.length ≤ 1048576 then some (.agg (planV c d)) else none
def kn48_1_1 (r1 : List CV) (c : Stb) : Option TV := (unStb r1).bind (kn48_1_2 c)
def kn48_1_0 (r0 : List CV) (r1 : List CV) : Option TV := (unStb r0).bind (kn48_1_1 r1)
def kn48_1 : List TV → Option TV
  | [.agg r0, .agg r1] => kn48_1_0 r0 r1
  | _ => none
def kn48_2_2 (c : Stb) (d : Stb) : Option TV := if c.log.length ≤ 1048576 ∧ d.log.length ≤ 1048576 then some (.agg (planV c d)) else none
def kn48_2_1 (r1 : List CV) (c : Stb) : Option TV := (unStb r1).bind (kn48_2_2 c)
def kn48_2_0 (r0 : List CV) (r1 : List CV) : Option TV := (unStb r0).bind (kn48_2_1 r1)
def kn48_2 : List TV → Option TV
  | [.agg r0, .agg r1] => kn48_2_0 r0 r1
  | _ => none
def kn48_call (f : FuncId) (args : List TV) : Option TV := if f = 15 then orO (kn48_0 args) (kn45.call f args) else if f = 14 then orO (kn48_1 args) (kn45.call f args) else if f = 16 then orO (kn48_2 args) (kn45.call f args) else kn45.call f args
def kn48 : Kn := { call := kn48_call, eqs := eqTys, callB := kn45.callB }
attribute [go_sem] kn48_0_0 kn48_0_1 kn48_0 kn48_1_0 kn48_1_1 kn48_1_2 kn48_1 kn48_2_0 kn48_2_1 kn48_2_2 kn48_2 kn48_call kn48
theorem kn48_ok : ∀ f args res, kn48_call f args = some res → TC Try.prog f args [] 1 res [] 1 := by
  intro f args res h
  unfold kn48_call at h
  split at h
  · rename_i e; subst e
    have hh := orO_elim h
    clear h
    rcases hh with h | h
    rotate_left
    · exact k45.call _ _ _ h
    unfold kn48_0 at h
    split at h
    · rename_i r0; unfold kn48_0_0 at h
      obtain ⟨c, e0, h⟩ := Option.bind_eq_some_iff.1 h
      unfold kn48_0_1 at h
      split at h
      · rename_i hc; cases h; rw [unStb_ok e0]; exact toStV c hc
      · cases h
    · cases h
  split at h
  · rename_i e; subst e
    have hh := orO_elim h
    clear h
    rcases hh with h | h
    rotate_left
    · exact k45.call _ _ _ h
    unfold kn48_1 at h
    split at h
    · rename_i r0 r1; unfold kn48_1_0 at h
      obtain ⟨c, e0, h⟩ := Option.bind_eq_some_iff.1 h
      unfold kn48_1_1 at h
      obtain ⟨d, e1, h⟩ := Option.bind_eq_some_iff.1 h
      unfold kn48_1_2 at h
      split at h
      · rename_i hc; cases h; rw [unStb_ok e0, unStb_ok e1]; exact planSV c d hc.1 hc.2
      · cases h
    · cases h
  split at h
  · rename_i e; subst e
    have hh := orO_elim h
    clear h
    rcases hh with h | h
    rotate_left
    · exact k45.call _ _ _ h
    unfold kn48_2 at h
    split at h
    · rename_i r0 r1; unfold kn48_2_0 at h
      obtain ⟨c, e0, h⟩ := Option.bind_eq_some_iff.1 h
      unfold kn48_2_1 at h
      obtain ⟨d, e1, h⟩ := Option.bind_eq_some_iff.1 h
      unfold kn48_2_2 at h
      split at h
      · rename_i hc; cases h; rw [unStb_ok e0, unStb_ok e1]; exact planIV c d hc.1 hc.2
      · cases h
    · cases h
  · exact k45.call f args res h
theorem k48 : KnOk Try.prog kn48 := ⟨kn48_ok, eqTysOk, k45.callB⟩
attribute [go_sem] planV
theorem stF_len {s : Stb} (h : stF s = true) : s.log.length ≤ 4096 := by
  simp only [stF, Bool.and_eq_true, decide_eq_true_eq] at h
  exact h.1.2
set_option maxHeartbeats 32000000 in
theorem lawPlan_tc (s u : Stb) (ho : ∀ e, e ∈ s.log → e.ok) (ho2 : ∀ e, e ∈ u.log → e.ok) (hl : s.log.length ≤ maxLen) (hl2 : u.log.length ≤ maxLen) : TC Try.prog 4 [.agg s.cv, .agg u.cv] [] 1 (bool true) [] 1 := by
  refine tc_intro Try.func4 rfl 92 rfl (Nat.le_of_ble_eq_true rfl) (by decide) [4] rfl (by intro id x h; cases h) ?_
  intro w0 E0
  have kOk := k46
  have hR : planC s u = 0 → (recL s u).length ≤ 4100 := fun h => by
    obtain ⟨_, h2, _⟩ := planC0 h
    have := recL_len s u
    have := stF_len h2
    omega
  obtain ⟨t, v, l⟩ := s
  obtain ⟨t', v', l'⟩ := u
  have hl' : l.length ≤ maxLen := hl
  have hl2' : l'.length ≤ maxLen := hl2
  simp only [Stb.cv]
  have q1 := szEsF_le (s := 1048576) (by omega) (by omega) hl' ho
  by_cases hs : szEsF l 1048576 < 0
  · have hp := (show (l.length ≤ maxLen) = True ∧ (szEsF l 1048576 < 0) = True ∧ ((-1 : Int) < 0) = True from ⟨eq_true hl', eq_true hs, by simp⟩)
    repeat' (fail_if_success (with_reducible apply amR_id)); first
      | (refine guardP_mk (fun h => ?_) (fun h => ?_) <;> (refine go1 ?_; try simp only [decide_eq_true_eq, decide_eq_false_iff_not, Bool.not_true, Bool.not_false, Bool.not_eq_true', Bool.not_eq_false', beq_iff_eq, bne_iff_ne, beq_eq_false_iff_ne, bne_eq_false_iff_eq, ne_eq, Bool.false_eq_true, reduceCtorEq] at h))
      | (refine hK _ ?_; clear hK K Q1)
      | (refine ⟨by first | omega | (simp only [List.length_map, List.length_append, List.length_cons, List.length_nil, List.length_replicate, List.length_drop, List.length_take]; omega), by unfold maxLen; first | omega | (simp only [List.length_map, List.length_append, List.length_cons, List.length_nil, List.length_replicate, List.length_drop, List.length_take]; omega), ?_⟩)
      | (refine hK _ _ rfl ?_; clear hK K; try refine go1 ?_)
      | (refine am_retP rfl ?_ rfl; first | refine go ?_ | rfl)
      | (refine am_retC [] rfl ?_ rfl rfl; first | refine go ?_ | rfl)
      | (refine wkq ?_)
      | (refine am_rs tabOk kOk rfl fun K Q1 hK => ?_; refine go1 ?_)
      | (refine am_ds mixed tabOk kOk rfl rfl fun K hK => ?_; refine go1 ?_)
      | (refine am_dreg mixed tabOk kOk rfl rfl fun K hK => ?_; refine go1 ?_)
    all_goals rfl
  have q2 := szEsF_le (s := szEsF l 1048576) (by omega) (by omega) hl2' ho2
  by_cases hs2 : szEsF l' (szEsF l 1048576) < 0
  · have hp := (show (l.length ≤ maxLen) = True ∧ (l'.length ≤ maxLen) = True ∧ (szEsF l 1048576 < 0) = False ∧ (szEsF l' (szEsF l 1048576) < 0) = True ∧ ((-1 : Int) < 0) = True from ⟨eq_true hl', eq_true hl2', eq_false hs, eq_true hs2, by simp⟩)
    repeat' (fail_if_success (with_reducible apply amR_id)); first
      | (refine guardP_mk (fun h => ?_) (fun h => ?_) <;> (refine go1 ?_; try simp only [decide_eq_true_eq, decide_eq_false_iff_not, Bool.not_true, Bool.not_false, Bool.not_eq_true', Bool.not_eq_false', beq_iff_eq, bne_iff_ne, beq_eq_false_iff_ne, bne_eq_false_iff_eq, ne_eq, Bool.false_eq_true, reduceCtorEq] at h))
      | (refine hK _ ?_; clear hK K Q1)
      | (refine ⟨by first | omega | (simp only [List.length_map, List.length_append, List.length_cons, List.length_nil, List.length_replicate, List.length_drop, List.length_take]; omega), by unfold maxLen; first | omega | (simp only [List.length_map, List.length_append, List.length_cons, List.length_nil, List.length_replicate, List.length_drop, List.length_take]; omega), ?_⟩)
      | (refine hK _ _ rfl ?_; clear hK K; try refine go1 ?_)
      | (refine am_retP rfl ?_ rfl; first | refine go ?_ | rfl)
      | (refine am_retC [] rfl ?_ rfl rfl; first | refine go ?_ | rfl)
      | (refine wkq ?_)
      | (refine am_rs tabOk kOk rfl fun K Q1 hK => ?_; refine go1 ?_)
      | (refine am_ds mixed tabOk kOk rfl rfl fun K hK => ?_; refine go1 ?_)
      | (refine am_dreg mixed tabOk kOk rfl rfl fun K hK => ?_; refine go1 ?_)
    all_goals rfl
  have h20 : l.length ≤ 1048576 := by omega
  have h21 : l'.length ≤ 1048576 := by omega
  by_cases hk : planC ⟨t, v, l⟩ ⟨t', v', l'⟩ = 0
  · have hR' := hR hk
    have hp := (show (l.length ≤ maxLen) = True ∧ (l'.length ≤ maxLen) = True ∧ (szEsF l 1048576 < 0) = False ∧ (szEsF l' (szEsF l 1048576) < 0) = False ∧ (l.length ≤ 1048576) = True ∧ (l'.length ≤ 1048576) = True ∧ (planC ⟨t, v, l⟩ ⟨t', v', l'⟩ = 0) = True ∧ ((recL ⟨t, v, l⟩ ⟨t', v', l'⟩).length ≤ 1048576) = True ∧ (∀ x : Int, (x != x) = false) ∧ ((0 : Int) ≤ 1) = True ∧ (1 + 7 * (l.length : Int) ≤ 1099511627776) = True ∧ (0 ≤ 1 + 7 * (l.length : Int)) = True ∧ (1 + 7 * (l.length : Int) + 7 * (l'.length : Int) ≤ 1099511627776) = True ∧ (1 + 7 * (l.length : Int) + 7 * (l'.length : Int) < 0) = False ∧ (1 + 11 * ((recL ⟨t, v, l⟩ ⟨t', v', l'⟩).length : Int) ≤ 1099511627776) = True ∧ (1 + 11 * ((recL ⟨t, v, l⟩ ⟨t', v', l'⟩).length : Int) < 0) = False ∧ (∀ n k, (mkRs n k).length = n) from
      ⟨eq_true hl', eq_true hl2', eq_false hs, eq_false hs2, eq_true h20, eq_true h21, eq_true hk, eq_true (by omega), fun x => by simp, by simp, eq_true (by omega), eq_true (by omega), eq_true (by omega), eq_false (by omega), eq_true (by omega), eq_false (by omega), mkRs_len⟩)
    refine wk1 ?_
    first | refine am_ds mixed tabOk k48 rfl rfl fun K hK => ?_ | refine am_dreg mixed tabOk k48 rfl rfl fun K hK => ?_
    refine go1 ?_
    refine hK _ _ rfl ?_
    clear hK K
    refine go1 ?_
    refine wk1 ?_
    first | refine am_ds mixed tabOk k48 rfl rfl fun K hK => ?_ | refine am_dreg mixed tabOk k48 rfl rfl fun K hK => ?_
    refine go1 ?_
    refine hK _ _ rfl ?_
    clear hK K
    refine go1 ?_
    refine wk1 ?_
    repeat' (fail_if_success (with_reducible apply amR_id)); first
      | (refine guardP_mk (fun h => ?_) (fun h => ?_) <;> (refine go1 ?_; try simp only [decide_eq_true_eq, decide_eq_false_iff_not, Bool.not_true, Bool.not_false, Bool.not_eq_true', Bool.not_eq_false', beq_iff_eq, bne_iff_ne, beq_eq_false_iff_ne, bne_eq_false_iff_eq, ne_eq, Bool.false_eq_true, reduceCtorEq] at h))
      | (refine hK _ ?_; clear hK K Q1)
      | (refine ⟨by first | omega | (simp only [List.length_map, List.length_append, List.length_cons, List.length_nil, List.length_replicate, List.length_drop, List.length_take]; omega), by unfold maxLen; first | omega | (simp only [List.length_map, List.length_append, List.length_cons, List.length_nil, List.length_replicate, List.length_drop, List.length_take]; omega), ?_⟩)
      | (refine hK _ _ rfl ?_; clear hK K; try refine go1 ?_)
      | (refine am_retP rfl ?_ rfl; first | refine go ?_ | rfl)
      | (refine am_retC [] rfl ?_ rfl rfl; first | refine go ?_ | rfl)
      | (refine wkq ?_)
      | (refine am_rs tabOk kOk rfl fun K Q1 hK => ?_; refine go1 ?_)
      | (refine am_ds mixed tabOk kOk rfl rfl fun K hK => ?_; refine go1 ?_)
      | (refine am_dreg mixed tabOk kOk rfl rfl fun K hK => ?_; refine go1 ?_)
    all_goals rfl
  · have hp := (show (l.length ≤ maxLen) = True ∧ (l'.length ≤ maxLen) = True ∧ (szEsF l 1048576 < 0) = False ∧ (szEsF l' (szEsF l 1048576) < 0) = False ∧ (l.length ≤ 1048576) = True ∧ (l'.length ≤ 1048576) = True ∧ (planC ⟨t, v, l⟩ ⟨t', v', l'⟩ = 0) = False ∧ (∀ x : Int, (x != x) = false) ∧ ((0 : Int) ≤ 1) = True ∧ (1 + 7 * (l.length : Int) ≤ 1099511627776) = True ∧ (0 ≤ 1 + 7 * (l.length : Int)) = True ∧ (1 + 7 * (l.length : Int) + 7 * (l'.length : Int) ≤ 1099511627776) = True ∧ (1 + 7 * (l.length : Int) + 7 * (l'.length : Int) < 0) = False ∧ ((1 : Int) < 0) = False from
      ⟨eq_true hl', eq_true hl2', eq_false hs, eq_false hs2, eq_true h20, eq_true h21, eq_false hk, fun x => by simp, by simp, eq_true (by omega), eq_true (by omega), eq_true (by omega), eq_false (by omega), by simp⟩)
    refine wk1 ?_
    first | refine am_ds mixed tabOk k48 rfl rfl fun K hK => ?_ | refine am_dreg mixed tabOk k48 rfl rfl fun K hK => ?_
    refine go1 ?_
    refine hK _ _ rfl ?_
    clear hK K
    refine go1 ?_
    refine wk1 ?_
    first | refine am_ds mixed tabOk k48 rfl rfl fun K hK => ?_ | refine am_dreg mixed tabOk k48 rfl rfl fun K hK => ?_
    refine go1 ?_
    refine hK _ _ rfl ?_
    clear hK K
    refine go1 ?_
    refine wk1 ?_
    repeat' (fail_if_success (with_reducible apply amR_id)); first
      | (refine guardP_mk (fun h => ?_) (fun h => ?_) <;> (refine go1 ?_; try simp only [decide_eq_true_eq, decide_eq_false_iff_not, Bool.not_true, Bool.not_false, Bool.not_eq_true', Bool.not_eq_false', beq_iff_eq, bne_iff_ne, beq_eq_false_iff_ne, bne_eq_false_iff_eq, ne_eq, Bool.false_eq_true, reduceCtorEq] at h))
      | (refine hK _ ?_; clear hK K Q1)
      | (refine ⟨by first | omega | (simp only [List.length_map, List.length_append, List.length_cons, List.length_nil, List.length_replicate, List.length_drop, List.length_take]; omega), by unfold maxLen; first | omega | (simp only [List.length_map, List.length_append, List.length_cons, List.length_nil, List.length_replicate, List.length_drop, List.length_take]; omega), ?_⟩)
      | (refine hK _ _ rfl ?_; clear hK K; try refine go1 ?_)
      | (refine am_retP rfl ?_ rfl; first | refine go ?_ | rfl)
      | (refine am_retC [] rfl ?_ rfl rfl; first | refine go ?_ | rfl)
      | (refine wkq ?_)
      | (refine am_rs tabOk kOk rfl fun K Q1 hK => ?_; refine go1 ?_)
      | (refine am_ds mixed tabOk kOk rfl rfl fun K hK => ?_; refine go1 ?_)
      | (refine am_dreg mixed tabOk kOk rfl rfl fun K hK => ?_; refine go1 ?_)
    all_goals rfl
/-! ### What came in -/
theorem rowsOk {X : Type} {tr : X → List Tree} {ok : X → Prop} {sz : Nat} : ∀ {l : List (List Tree)}, (∀ x, x ∈ l → x.length = sz ∧ ∃ c : X, x = tr c ∧ ok c) → ∃ cs : List X, l = cs.map tr ∧ ∀ c, c ∈ cs → ok c
  | [], _ => ⟨[], rfl, fun c hc => by cases hc⟩
  | x :: l, h => by
    obtain ⟨c, rfl, hc⟩ := (h x List.mem_cons_self).2
    obtain ⟨cs, rfl, hcs⟩ := rowsOk (tr := tr) (ok := ok) (sz := sz) (l := l) fun y hy => h y (List.mem_cons_of_mem _ hy)
    exact ⟨c :: cs, rfl, fun d hd => (List.mem_cons.1 hd).elim (fun e => e ▸ hc) (hcs d)⟩
theorem opT_rowsOk {P : Program} {t e : TypeId} {X : Type} {tr : X → List Tree} {ok : X → Prop} {sz : Nat} (ht : P.underlying t = some (.slice e)) (hc : P.cellsOf e = sz) (hpos : 0 < sz) (ho : OpT P (fun xs => ∃ c : X, xs = tr c ∧ ok c) e) : OpT P (fun xs => ∃ cs : List X, xs = [.sl sz (cs.map tr)] ∧ cs.length ≤ maxLen ∧ ∀ c, c ∈ cs → ok c) t := by
  refine opT_weak (opT_slice ht hc hpos ho) ?_
  rintro xs ⟨l, rfl, h1, h2⟩
  obtain ⟨cs, rfl, hcs⟩ := rowsOk h2
  exact ⟨cs, rfl, by simpa using h1, hcs⟩
theorem op_int {P : Program} {t : TypeId} (ht : P.underlying t = some (.int .i64)) : OpT P (fun xs => ∃ c : Int, xs = iTr c) t := opT_weak (opT_int ht) fun xs ⟨n, h, _⟩ => ⟨n, h⟩
theorem op_Entk : OpT Try.prog (fun xs => ∃ c : Ent, xs = c.tr ∧ c.ok) 114 := by
  refine opT_weak (opT_struct Try.underlying114 (by kernel_rfl) (opT_cons (s := 1) rfl (by kernel_rfl) (opT_int Try.underlying3) (opT_cons (s := 6) rfl (by kernel_rfl) (opT_struct Try.underlying23 (by kernel_rfl) (opT_cons (s := 1) rfl (by kernel_rfl) (opT_int Try.underlying3) (opT_cons (s := 1) rfl (by kernel_rfl) (opT_int Try.underlying3) (opT_cons (s := 1) rfl (by kernel_rfl) (opT_int Try.underlying3) (opT_cons (s := 1) rfl (by kernel_rfl) (opT_string Try.underlying9) (opT_cons (s := 1) rfl (by kernel_rfl) (opT_string Try.underlying9) (opT_cons (s := 1) rfl (by kernel_rfl) (opT_string Try.underlying9) opT_nil))))))) opT_nil))) ?_
  rintro xs ⟨_, _, rfl, ⟨a2, rfl, _⟩, ⟨_, _, rfl, ⟨_, _, rfl, ⟨a4, rfl, _⟩, ⟨_, _, rfl, ⟨a5, rfl, _⟩, ⟨_, _, rfl, ⟨a6, rfl, _⟩, ⟨_, _, rfl, ⟨a7, rfl, ha7⟩, ⟨_, _, rfl, ⟨a8, rfl, ha8⟩, ⟨_, _, rfl, ⟨a9, rfl, ha9⟩, rfl⟩⟩⟩⟩⟩⟩, rfl⟩⟩
  exact ⟨⟨a2, ⟨a4, a5, a6, a7, a8, a9⟩⟩, rfl, ha7, ha8, ha9⟩
theorem op_Stb : OpT Try.prog (fun xs => ∃ c : Stb, xs.map CV.t = c.cv ∧ (∀ e, e ∈ c.log → e.ok) ∧ c.log.length ≤ maxLen) 47 := by
  refine opT_weak (opT_struct Try.underlying47 (by kernel_rfl) (opT_cons (s := 1) rfl (by kernel_rfl) (opT_int Try.underlying3) (opT_cons (s := 1) rfl (by kernel_rfl) (opT_int Try.underlying3) (opT_cons (s := 1) rfl (by kernel_rfl) (opT_rowsOk (tr := Ent.tr) (ok := Ent.ok) (sz := 7) Try.underlying45 (by kernel_rfl) (by decide) op_Entk) opT_nil)))) ?_
  rintro xs ⟨_, _, rfl, ⟨a2, rfl, _⟩, ⟨_, _, rfl, ⟨a3, rfl, _⟩, ⟨_, _, rfl, ⟨a4, rfl, ha4, oa4⟩, rfl⟩⟩⟩
  exact ⟨⟨a2, a3, a4⟩, rfl, oa4, ha4⟩
theorem lawPlan (s u : Stb) (h : (∀ e, e ∈ s.log → e.ok) ∧ s.log.length ≤ maxLen) (h2 : (∀ e, e ∈ u.log → e.ok) ∧ u.log.length ≤ maxLen) : TC Try.prog 4 [.agg s.cv, .agg u.cv] [] 1 (bool true) [] 1 :=
  lawPlan_tc s u h.1 h2.1 h.2 h2.2
end Go.Proofs.YtaolgdpkcbfocaaA
