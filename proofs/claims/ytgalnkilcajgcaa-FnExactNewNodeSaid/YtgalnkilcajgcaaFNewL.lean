/- A new node: the law's own functions, and the law. -/
import Derived.Test.YtgalnkilcajgcaaFNew
namespace Go.Proofs.YtgalnkilcajgcaaA
open Go.Proofs
set_option autoImplicit false
set_option linter.unusedVariables false
set_option linter.unusedSimpArgs false
set_option maxRecDepth 4000
structure Nn where
  (id sz el be te vo ro le co no de he : Int)
  log : List Ent
deriving instance DecidableEq for Nn
def Nn.cv (c : Nn) : List CV := nnC c.id c.sz c.el c.be c.te c.vo c.ro c.le c.co c.no c.de c.he (.t (.sl 7 (c.log.map Ent.tr)))
def unNn : List CV → Option Nn
  | [.t (.v (.int .i64 id)), .t (.v (.int .i64 sz)), .t (.v (.int .i64 el)), .t (.v (.int .i64 be)), .t (.v (.int .i64 te)), .t (.v (.int .i64 vo)), .t (.v (.int .i64 ro)), .t (.v (.int .i64 le)), .t (.v (.int .i64 co)), .t (.v (.int .i64 no)), .t (.v (.int .i64 de)), .t (.v (.int .i64 he)), .t (.sl 7 xs), .t (.v (.slice none 0 0)), .t (.v (.slice none 0 0)), .t (.v (.slice none 0 0)), .t (.v (.slice none 0 0)), .t (.v (.slice none 0 0))] => (unEnts xs).map (Nn.mk id sz el be te vo ro le co no de he)
  | _ => none
theorem unNn_ok {xs : List CV} {c : Nn} (h : unNn xs = some c) : xs = c.cv := by
  unfold unNn at h
  split at h
  · rename_i ys
    cases hy : unEnts ys with
    | none => rw [hy] at h; cases h
    | some l => rw [hy] at h; cases h; rw [unEnts_ok hy]; rfl
  · cases h
/-- No node. -/
structure Nz where
  (id sz el be te vo ro le co no de he : Int)
deriving instance DecidableEq for Nz
def Nz.cv (c : Nz) : List CV := nnC c.id c.sz c.el c.be c.te c.vo c.ro c.le c.co c.no c.de c.he (litC (.slice none 0 0))
def unNz : List CV → Option Nz
  | [.t (.v (.int .i64 id)), .t (.v (.int .i64 sz)), .t (.v (.int .i64 el)), .t (.v (.int .i64 be)), .t (.v (.int .i64 te)), .t (.v (.int .i64 vo)), .t (.v (.int .i64 ro)), .t (.v (.int .i64 le)), .t (.v (.int .i64 co)), .t (.v (.int .i64 no)), .t (.v (.int .i64 de)), .t (.v (.int .i64 he)), .t (.v (.slice none 0 0)), .t (.v (.slice none 0 0)), .t (.v (.slice none 0 0)), .t (.v (.slice none 0 0)), .t (.v (.slice none 0 0)), .t (.v (.slice none 0 0))] => some ⟨id, sz, el, be, te, vo, ro, le, co, no, de, he⟩
  | _ => none
theorem unNz_ok {xs : List CV} {c : Nz} (h : unNz xs = some c) : xs = c.cv := by
  unfold unNz at h
  split at h
  · cases h; rfl
  · cases h
attribute [go_sem] unNn unNz Nn.cv Nz.cv
theorem eqEs0_tc : TC Try.prog 72 [lit (.slice none 0 0), lit (.slice none 0 0)] [] 1 (bool true) [] 1 := by
  refine tc_intro Try.func72 rfl 27 rfl (Nat.le_of_ble_eq_true rfl) (by decide) [4] rfl (by intro id x h; cases h) ?_
  intro w0 E0
  have kOk := k19
  refine wk ?_
  refine guardP_mk (fun h => ?_) (fun h => ?_)
  · simp at h
  refine go ?_
  refine wk ?_
  refine am_loop 1 (amR_succ ?_)
  refine wk ?_
  refine guardP_mk (fun h => ?_) (fun h => ?_)
  · simp at h
  · refine go ?_
    refine wk ?_
    refine am_retP rfl ?_ rfl
    first | refine go ?_ | rfl
theorem eqIs0_tc : TC Try.prog 118 [lit (.slice none 0 0), lit (.slice none 0 0)] [] 1 (bool true) [] 1 := by
  refine tc_intro Try.func118 rfl 26 rfl (Nat.le_of_ble_eq_true rfl) (by decide) [4] rfl (by intro id x h; cases h) ?_
  intro w0 E0
  have kOk := k19
  refine wk ?_
  refine guardP_mk (fun h => ?_) (fun h => ?_)
  · simp at h
  refine go ?_
  refine wk ?_
  refine am_loop 1 (amR_succ ?_)
  refine wk ?_
  refine guardP_mk (fun h => ?_) (fun h => ?_)
  · simp at h
  · refine go ?_
    refine wk ?_
    refine am_retP rfl ?_ rfl
    first | refine go ?_ | rfl
def kn20_0_0  : Option TV := some (bool true)
def kn20_0 : List TV → Option TV
  | [.c (.t (.v (.slice none 0 0))), .c (.t (.v (.slice none 0 0)))] => kn20_0_0
  | _ => none
def kn20_1_0  : Option TV := some (bool true)
def kn20_1 : List TV → Option TV
  | [.c (.t (.v (.slice none 0 0))), .c (.t (.v (.slice none 0 0)))] => kn20_1_0
  | _ => none
def kn20_2_0 (k : Int) : Option TV := some (int k)
def kn20_2 : List TV → Option TV
  | [.c (.t (.v (.slice none 0 0))), .c (.t (.v (.int .i64 k)))] => kn20_2_0 k
  | _ => none
def kn20_3_0 (k : Int) : Option TV := some (int k)
def kn20_3 : List TV → Option TV
  | [.c (.t (.v (.slice none 0 0))), .c (.t (.v (.int .i64 k)))] => kn20_3_0 k
  | _ => none
def kn20_4_0 (k : Int) : Option TV := some (int k)
def kn20_4 : List TV → Option TV
  | [.c (.t (.v (.slice none 0 0))), .c (.t (.v (.int .i64 k)))] => kn20_4_0 k
  | _ => none
def kn20_5_0 (k : Int) : Option TV := some (int k)
def kn20_5 : List TV → Option TV
  | [.c (.t (.v (.slice none 0 0))), .c (.t (.v (.int .i64 k)))] => kn20_5_0 k
  | _ => none
def kn20_call (f : FuncId) (args : List TV) : Option TV := if f = 72 then orO (kn20_0 args) (kn19.call f args) else if f = 118 then orO (kn20_1 args) (kn19.call f args) else if f = 73 then orO (kn20_2 args) (kn19.call f args) else if f = 145 then orO (kn20_3 args) (kn19.call f args) else if f = 120 then orO (kn20_4 args) (kn19.call f args) else if f = 132 then orO (kn20_5 args) (kn19.call f args) else kn19.call f args
def kn20 : Kn := { call := kn20_call, eqs := eqTys, callB := kn19.callB }
attribute [go_sem] kn20_0_0 kn20_0 kn20_1_0 kn20_1 kn20_2_0 kn20_2 kn20_3_0 kn20_3 kn20_4_0 kn20_4 kn20_5_0 kn20_5 kn20_call kn20
theorem kn20_ok : ∀ f args res, kn20_call f args = some res → TC Try.prog f args [] 1 res [] 1 := by
  intro f args res h
  unfold kn20_call at h
  split at h
  · rename_i e; subst e
    have hh := orO_elim h
    clear h
    rcases hh with h | h
    rotate_left
    · exact k19.call _ _ _ h
    unfold kn20_0 at h
    split at h
    · unfold kn20_0_0 at h
      cases h; exact eqEs0_tc
    · cases h
  split at h
  · rename_i e; subst e
    have hh := orO_elim h
    clear h
    rcases hh with h | h
    rotate_left
    · exact k19.call _ _ _ h
    unfold kn20_1 at h
    split at h
    · unfold kn20_1_0 at h
      cases h; exact eqIs0_tc
    · cases h
  split at h
  · rename_i e; subst e
    have hh := orO_elim h
    clear h
    rcases hh with h | h
    rotate_left
    · exact k19.call _ _ _ h
    unfold kn20_2 at h
    split at h
    · rename_i k; unfold kn20_2_0 at h
      cases h; exact markEs0_tc k
    · cases h
  split at h
  · rename_i e; subst e
    have hh := orO_elim h
    clear h
    rcases hh with h | h
    rotate_left
    · exact k19.call _ _ _ h
    unfold kn20_3 at h
    split at h
    · rename_i k; unfold kn20_3_0 at h
      cases h; exact heldEs0_tc k
    · cases h
  split at h
  · rename_i e; subst e
    have hh := orO_elim h
    clear h
    rcases hh with h | h
    rotate_left
    · exact k19.call _ _ _ h
    unfold kn20_4 at h
    split at h
    · rename_i k; unfold kn20_4_0 at h
      cases h; exact markIs0_tc k
    · cases h
  split at h
  · rename_i e; subst e
    have hh := orO_elim h
    clear h
    rcases hh with h | h
    rotate_left
    · exact k19.call _ _ _ h
    unfold kn20_5 at h
    split at h
    · rename_i k; unfold kn20_5_0 at h
      cases h; exact heldIs0_tc k
    · cases h
  · exact k19.call f args res h
theorem k20 : KnOk Try.prog kn20 := ⟨kn20_ok, eqTysOk, k19.callB⟩
set_option maxHeartbeats 16000000 in
theorem eqNn_tc (c : Nn) (hl : c.log.length ≤ 1048576) : TC Try.prog 49 [.agg c.cv, .agg c.cv] [] 1 (bool true) [] 1 := by
  refine tc_intro Try.func49 rfl 101 rfl (Nat.le_of_ble_eq_true rfl) (by decide) [4] rfl (by intro id x h; cases h) ?_
  intro w0 E0
  have kOk := k20
  obtain ⟨id, sz, el, be, te, vo, ro, le, co, no, de, he, l⟩ := c
  have hp : ((l.length ≤ 1048576) = True) ∧ (∀ x : Int, (x != x) = false) := ⟨eq_true hl, fun x => by simp⟩
  simp only [Nn.cv, nnC]
  repeat' first
    | (refine guardP_mk (fun h => ?_) (fun h => ?_) <;> (refine go1 ?_; try simp only [decide_eq_true_eq, decide_eq_false_iff_not, Bool.not_true, Bool.not_false, Bool.not_eq_true', Bool.not_eq_false', beq_iff_eq, bne_iff_ne, beq_eq_false_iff_ne, bne_eq_false_iff_eq, ne_eq, Bool.false_eq_true, reduceCtorEq] at h))
    | (refine hK _ ?_; clear hK K Q1)
    | (refine hK _ _ rfl ?_; clear hK K; try refine go1 ?_)
    | (refine am_retP rfl ?_ rfl; first | refine go ?_ | rfl)
    | (refine am_retC [] rfl ?_ rfl rfl; first | refine go ?_ | rfl)
    | (refine wkq ?_)
    | (refine am_rs tabOk kOk rfl fun K Q1 hK => ?_; refine go1 ?_)
    | (refine am_ds mixed tabOk kOk rfl rfl fun K hK => ?_; refine go1 ?_)
    | (refine am_dreg mixed tabOk kOk rfl rfl fun K hK => ?_; refine go1 ?_)
  all_goals rfl
set_option maxHeartbeats 16000000 in
theorem eqNz_tc (c : Nz) : TC Try.prog 49 [.agg c.cv, .agg c.cv] [] 1 (bool true) [] 1 := by
  refine tc_intro Try.func49 rfl 101 rfl (Nat.le_of_ble_eq_true rfl) (by decide) [4] rfl (by intro id x h; cases h) ?_
  intro w0 E0
  have kOk := k20
  obtain ⟨id, sz, el, be, te, vo, ro, le, co, no, de, he⟩ := c
  have hp : ∀ x : Int, (x != x) = false := fun x => by simp
  simp only [Nz.cv, nnC]
  repeat' first
    | (refine guardP_mk (fun h => ?_) (fun h => ?_) <;> (refine go1 ?_; try simp only [decide_eq_true_eq, decide_eq_false_iff_not, Bool.not_true, Bool.not_false, Bool.not_eq_true', Bool.not_eq_false', beq_iff_eq, bne_iff_ne, beq_eq_false_iff_ne, bne_eq_false_iff_eq, ne_eq, Bool.false_eq_true, reduceCtorEq] at h))
    | (refine hK _ ?_; clear hK K Q1)
    | (refine hK _ _ rfl ?_; clear hK K; try refine go1 ?_)
    | (refine am_retP rfl ?_ rfl; first | refine go ?_ | rfl)
    | (refine am_retC [] rfl ?_ rfl rfl; first | refine go ?_ | rfl)
    | (refine wkq ?_)
    | (refine am_rs tabOk kOk rfl fun K Q1 hK => ?_; refine go1 ?_)
    | (refine am_ds mixed tabOk kOk rfl rfl fun K hK => ?_; refine go1 ?_)
    | (refine am_dreg mixed tabOk kOk rfl rfl fun K hK => ?_; refine go1 ?_)
  all_goals rfl
set_option maxHeartbeats 16000000 in
theorem heldNn_tc (c : Nn) (k : Int) (hm : c.log = mkEs c.log.length k) (h0 : 0 ≤ k) (hk : k + 7 * (c.log.length : Nat) ≤ 1099511627776) : TC Try.prog 53 [.agg c.cv, int k] [] 1 (int (k + 7 * (c.log.length : Nat))) [] 1 := by
  refine tc_intro Try.func53 rfl 42 rfl (Nat.le_of_ble_eq_true rfl) (by decide) [4] rfl (by intro id x h; cases h) ?_
  intro w0 E0
  have kOk := k20
  obtain ⟨id, sz, el, be, te, vo, ro, le, co, no, de, he, l⟩ := c
  have hm' : l = mkEs l.length k := hm
  have hk' : k + 7 * (l.length : Nat) ≤ 1099511627776 := hk
  have hp : ((l = mkEs l.length k) = True) ∧ ((0 ≤ k) = True) ∧ ((k + 7 * (l.length : Nat) ≤ 1099511627776) = True) ∧ ((k + 7 * (l.length : Nat) < 0) = False) := ⟨eq_true hm', eq_true h0, eq_true hk', eq_false (by omega)⟩
  simp only [Nn.cv, nnC]
  repeat' first
    | (refine guardP_mk (fun h => ?_) (fun h => ?_) <;> (refine go1 ?_; try simp only [decide_eq_true_eq, decide_eq_false_iff_not, Bool.not_true, Bool.not_false, Bool.not_eq_true', Bool.not_eq_false', beq_iff_eq, bne_iff_ne, beq_eq_false_iff_ne, bne_eq_false_iff_eq, ne_eq, Bool.false_eq_true, reduceCtorEq] at h))
    | (refine hK _ ?_; clear hK K Q1)
    | (refine hK _ _ rfl ?_; clear hK K; try refine go1 ?_)
    | (refine am_retP rfl ?_ rfl; first | refine go ?_ | rfl)
    | (refine am_retC [] rfl ?_ rfl rfl; first | refine go ?_ | rfl)
    | (refine wkq ?_)
    | (refine am_rs tabOk kOk rfl fun K Q1 hK => ?_; refine go1 ?_)
    | (refine am_ds mixed tabOk kOk rfl rfl fun K hK => ?_; refine go1 ?_)
    | (refine am_dreg mixed tabOk kOk rfl rfl fun K hK => ?_; refine go1 ?_)
  all_goals rfl
set_option maxHeartbeats 16000000 in
theorem heldNz_tc (c : Nz) (k : Int) (h0 : 0 ≤ k) : TC Try.prog 53 [.agg c.cv, int k] [] 1 (int k) [] 1 := by
  refine tc_intro Try.func53 rfl 42 rfl (Nat.le_of_ble_eq_true rfl) (by decide) [4] rfl (by intro id x h; cases h) ?_
  intro w0 E0
  have kOk := k20
  obtain ⟨id, sz, el, be, te, vo, ro, le, co, no, de, he⟩ := c
  have hp : (k < 0) = False := eq_false (by omega)
  simp only [Nz.cv, nnC]
  repeat' first
    | (refine guardP_mk (fun h => ?_) (fun h => ?_) <;> (refine go1 ?_; try simp only [decide_eq_true_eq, decide_eq_false_iff_not, Bool.not_true, Bool.not_false, Bool.not_eq_true', Bool.not_eq_false', beq_iff_eq, bne_iff_ne, beq_eq_false_iff_ne, bne_eq_false_iff_eq, ne_eq, Bool.false_eq_true, reduceCtorEq] at h))
    | (refine hK _ ?_; clear hK K Q1)
    | (refine hK _ _ rfl ?_; clear hK K; try refine go1 ?_)
    | (refine am_retP rfl ?_ rfl; first | refine go ?_ | rfl)
    | (refine am_retC [] rfl ?_ rfl rfl; first | refine go ?_ | rfl)
    | (refine wkq ?_)
    | (refine am_rs tabOk kOk rfl fun K Q1 hK => ?_; refine go1 ?_)
    | (refine am_ds mixed tabOk kOk rfl rfl fun K hK => ?_; refine go1 ?_)
    | (refine am_dreg mixed tabOk kOk rfl rfl fun K hK => ?_; refine go1 ?_)
  all_goals rfl
theorem markNz_tc (c : Nz) (k : Int) : TC Try.prog 52 [.agg c.cv, int k] [] 1 (int k) [] 1 := by
  refine tc_intro Try.func52 rfl 30 rfl (Nat.le_of_ble_eq_true rfl) (by decide) [4] rfl (by intro id x h; cases h) ?_
  intro w0 E0
  have kOk := k20
  obtain ⟨id, sz, el, be, te, vo, ro, le, co, no, de, he⟩ := c
  simp only [Nz.cv, nnC]
  repeat' first
    | (refine guardP_mk (fun h => ?_) (fun h => ?_) <;> (refine go ?_; try simp only [decide_eq_true_eq, decide_eq_false_iff_not, Bool.not_true, Bool.not_false, Bool.not_eq_true', Bool.not_eq_false', beq_iff_eq, bne_iff_ne, beq_eq_false_iff_ne, bne_eq_false_iff_eq, ne_eq, Bool.false_eq_true, reduceCtorEq] at h))
    | (refine hK _ ?_; clear hK K Q1)
    | (refine hK _ _ rfl ?_; clear hK K; try refine go ?_)
    | (refine am_retP rfl ?_ rfl; first | refine go ?_ | rfl)
    | (refine am_retC [] rfl ?_ rfl rfl; first | refine go ?_ | rfl)
    | (refine wkp ?_)
    | (refine am_rs tabOk kOk rfl fun K Q1 hK => ?_; refine go ?_)
    | (refine am_ds mixed tabOk kOk rfl rfl fun K hK => ?_; refine go ?_)
    | (refine am_dreg mixed tabOk kOk rfl rfl fun K hK => ?_; refine go ?_)
  all_goals rfl
theorem markNn_tc (id sz el be te vo ro le co no de he : Int) (l : List Ent) (k : Int) (h0 : 0 ≤ k) (hk : k + 7 * (l.length : Nat) ≤ 1099511627776) : TC Try.prog 52 [.agg (nnC id sz el be te vo ro le co no de he (.own 1 0 l.length)), int k] [(1, .arr 198 7 (l.map Ent.tr))] 2 (int (k + 7 * (l.length : Nat))) [(1, .arr 198 7 ((mkEs l.length k).map Ent.tr))] 2 := by
  refine tc_intro Try.func52 rfl 30 rfl (Nat.le_of_ble_eq_true rfl) (by decide) [4] rfl dom1 ?_
  intro w0 E0
  have kOk := k20
  have hp : ((0 ≤ k) = True) ∧ ((k + 7 * (l.length : Nat) ≤ 1099511627776) = True) := ⟨eq_true h0, eq_true hk⟩
  simp only [nnC]
  refine wk1 ?_
  refine am_retB [(1, 1)] rfl ?_ ?_ rfl <;> first | refine go ?_ | rfl
def kn21_0_2 (c : Nn) (d : Nn) : Option TV := if c = d ∧ c.log.length ≤ 1048576 then some (bool true) else none
def kn21_0_1 (r1 : List CV) (c : Nn) : Option TV := (unNn r1).bind (kn21_0_2 c)
def kn21_0_0 (r0 : List CV) (r1 : List CV) : Option TV := (unNn r0).bind (kn21_0_1 r1)
def kn21_0 : List TV → Option TV
  | [.agg r0, .agg r1] => kn21_0_0 r0 r1
  | _ => none
def kn21_1_1 (k : Int) (c : Nn) : Option TV := if c.log = mkEs c.log.length k ∧ 0 ≤ k ∧ k + 7 * (c.log.length : Nat) ≤ 1099511627776 then some (int (k + 7 * (c.log.length : Nat))) else none
def kn21_1_0 (k : Int) (r0 : List CV) : Option TV := (unNn r0).bind (kn21_1_1 k)
def kn21_1 : List TV → Option TV
  | [.agg r0, .c (.t (.v (.int .i64 k)))] => kn21_1_0 k r0
  | _ => none
def kn21_2_1 (k : Int) (c : Nz) : Option TV := some (int k)
def kn21_2_0 (k : Int) (r0 : List CV) : Option TV := (unNz r0).bind (kn21_2_1 k)
def kn21_2 : List TV → Option TV
  | [.agg r0, .c (.t (.v (.int .i64 k)))] => kn21_2_0 k r0
  | _ => none
def kn21_call (f : FuncId) (args : List TV) : Option TV := if f = 49 then orO (kn21_0 args) (kn20.call f args) else if f = 53 then orO (kn21_1 args) (kn20.call f args) else if f = 52 then orO (kn21_2 args) (kn20.call f args) else kn20.call f args
def kn21 : Kn := { call := kn21_call, eqs := eqTys, callB := kn20.callB }
attribute [go_sem] kn21_0_0 kn21_0_1 kn21_0_2 kn21_0 kn21_1_0 kn21_1_1 kn21_1 kn21_2_0 kn21_2_1 kn21_2 kn21_call kn21
theorem kn21_ok : ∀ f args res, kn21_call f args = some res → TC Try.prog f args [] 1 res [] 1 := by
  intro f args res h
  unfold kn21_call at h
  split at h
  · rename_i e; subst e
    have hh := orO_elim h
    clear h
    rcases hh with h | h
    rotate_left
    · exact k20.call _ _ _ h
    unfold kn21_0 at h
    split at h
    · rename_i r0 r1; unfold kn21_0_0 at h
      obtain ⟨c, e0, h⟩ := Option.bind_eq_some_iff.1 h
      unfold kn21_0_1 at h
      obtain ⟨d, e1, h⟩ := Option.bind_eq_some_iff.1 h
      unfold kn21_0_2 at h
      split at h
      · rename_i hc; cases h; rw [unNn_ok e0, unNn_ok e1]; exact (by rw [hc.1]; exact eqNn_tc d (hc.1 ▸ hc.2))
      · cases h
    · cases h
  split at h
  · rename_i e; subst e
    have hh := orO_elim h
    clear h
    rcases hh with h | h
    rotate_left
    · exact k20.call _ _ _ h
    unfold kn21_1 at h
    split at h
    · rename_i r0 k; unfold kn21_1_0 at h
      obtain ⟨c, e0, h⟩ := Option.bind_eq_some_iff.1 h
      unfold kn21_1_1 at h
      split at h
      · rename_i hc; cases h; rw [unNn_ok e0]; exact heldNn_tc c k hc.1 hc.2.1 hc.2.2
      · cases h
    · cases h
  split at h
  · rename_i e; subst e
    have hh := orO_elim h
    clear h
    rcases hh with h | h
    rotate_left
    · exact k20.call _ _ _ h
    unfold kn21_2 at h
    split at h
    · rename_i r0 k; unfold kn21_2_0 at h
      obtain ⟨c, e0, h⟩ := Option.bind_eq_some_iff.1 h
      unfold kn21_2_1 at h
      cases h; rw [unNz_ok e0]; exact markNz_tc c k
    · cases h
  · exact k20.call f args res h
theorem k21 : KnOk Try.prog kn21 := ⟨kn21_ok, eqTysOk, k20.callB⟩
def kn22_0_2 (c : Nz) (d : Nz) : Option TV := if c = d then some (bool true) else none
def kn22_0_1 (r1 : List CV) (c : Nz) : Option TV := (unNz r1).bind (kn22_0_2 c)
def kn22_0_0 (r0 : List CV) (r1 : List CV) : Option TV := (unNz r0).bind (kn22_0_1 r1)
def kn22_0 : List TV → Option TV
  | [.agg r0, .agg r1] => kn22_0_0 r0 r1
  | _ => none
def kn22_1_1 (k : Int) (c : Nz) : Option TV := if 0 ≤ k then some (int k) else none
def kn22_1_0 (k : Int) (r0 : List CV) : Option TV := (unNz r0).bind (kn22_1_1 k)
def kn22_1 : List TV → Option TV
  | [.agg r0, .c (.t (.v (.int .i64 k)))] => kn22_1_0 k r0
  | _ => none
def kn22_call (f : FuncId) (args : List TV) : Option TV := if f = 49 then orO (kn22_0 args) (kn21.call f args) else if f = 53 then orO (kn22_1 args) (kn21.call f args) else kn21.call f args
def kn22 : Kn := { call := kn22_call, eqs := eqTys, callB := kn21.callB }
attribute [go_sem] kn22_0_0 kn22_0_1 kn22_0_2 kn22_0 kn22_1_0 kn22_1_1 kn22_1 kn22_call kn22
theorem kn22_ok : ∀ f args res, kn22_call f args = some res → TC Try.prog f args [] 1 res [] 1 := by
  intro f args res h
  unfold kn22_call at h
  split at h
  · rename_i e; subst e
    have hh := orO_elim h
    clear h
    rcases hh with h | h
    rotate_left
    · exact k21.call _ _ _ h
    unfold kn22_0 at h
    split at h
    · rename_i r0 r1; unfold kn22_0_0 at h
      obtain ⟨c, e0, h⟩ := Option.bind_eq_some_iff.1 h
      unfold kn22_0_1 at h
      obtain ⟨d, e1, h⟩ := Option.bind_eq_some_iff.1 h
      unfold kn22_0_2 at h
      split at h
      · rename_i hc; cases h; rw [unNz_ok e0, unNz_ok e1]; exact (by rw [hc]; exact eqNz_tc d)
      · cases h
    · cases h
  split at h
  · rename_i e; subst e
    have hh := orO_elim h
    clear h
    rcases hh with h | h
    rotate_left
    · exact k21.call _ _ _ h
    unfold kn22_1 at h
    split at h
    · rename_i r0 k; unfold kn22_1_0 at h
      obtain ⟨c, e0, h⟩ := Option.bind_eq_some_iff.1 h
      unfold kn22_1_1 at h
      split at h
      · rename_i hc; cases h; rw [unNz_ok e0]; exact heldNz_tc c k hc
      · cases h
    · cases h
  · exact k21.call f args res h
theorem k22 : KnOk Try.prog kn22 := ⟨kn22_ok, eqTysOk, k21.callB⟩
def kn23_0_1 (c : Stb) : CB := if c.log.length ≤ 1048576 then some (.agg [ci c.term, ci c.vote, .own 1 0 c.log.length], [(1, .arr 198 7 (c.log.map Ent.tr))], 2) else none
def kn23_0_0 (r0 : List CV) : CB := (unStb r0).bind (kn23_0_1)
def kn23_0 : List TV → List (Nat × AObj) → CB
  | [.agg r0], [] => kn23_0_0 r0
  | _, _ => none
def kn23_1_1 (t : Int) (v : Int) (n : Nat) (k : Int) (l : List Ent) : CB := if n = l.length ∧ 0 ≤ k ∧ k + 7 * (l.length : Nat) ≤ 1099511627776 then some (int (k + 7 * (l.length : Nat)), [(1, .arr 198 7 ((mkEs l.length k).map Ent.tr))], 2) else none
def kn23_1_0 (t : Int) (v : Int) (n : Nat) (k : Int) (r0 : List (List Tree)) : CB := (unEnts r0).bind (kn23_1_1 t v n k)
def kn23_1 : List TV → List (Nat × AObj) → CB
  | [.agg [.t (.v (.int .i64 t)), .t (.v (.int .i64 v)), .own 1 0 n], .c (.t (.v (.int .i64 k)))], [(1, .arr 198 7 r0)] => kn23_1_0 t v n k r0
  | _, _ => none
def kn23_2_1 (id : Int) (sz : Int) (el : Int) (be : Int) (te : Int) (vo : Int) (ro : Int) (le : Int) (co : Int) (no : Int) (de : Int) (he : Int) (n : Nat) (k : Int) (l : List Ent) : CB := if n = l.length ∧ 0 ≤ k ∧ k + 7 * (l.length : Nat) ≤ 1099511627776 then some (int (k + 7 * (l.length : Nat)), [(1, .arr 198 7 ((mkEs l.length k).map Ent.tr))], 2) else none
def kn23_2_0 (id : Int) (sz : Int) (el : Int) (be : Int) (te : Int) (vo : Int) (ro : Int) (le : Int) (co : Int) (no : Int) (de : Int) (he : Int) (n : Nat) (k : Int) (r0 : List (List Tree)) : CB := (unEnts r0).bind (kn23_2_1 id sz el be te vo ro le co no de he n k)
def kn23_2 : List TV → List (Nat × AObj) → CB
  | [.agg [.t (.v (.int .i64 id)), .t (.v (.int .i64 sz)), .t (.v (.int .i64 el)), .t (.v (.int .i64 be)), .t (.v (.int .i64 te)), .t (.v (.int .i64 vo)), .t (.v (.int .i64 ro)), .t (.v (.int .i64 le)), .t (.v (.int .i64 co)), .t (.v (.int .i64 no)), .t (.v (.int .i64 de)), .t (.v (.int .i64 he)), .own 1 0 n, .t (.v (.slice none 0 0)), .t (.v (.slice none 0 0)), .t (.v (.slice none 0 0)), .t (.v (.slice none 0 0)), .t (.v (.slice none 0 0))], .c (.t (.v (.int .i64 k)))], [(1, .arr 198 7 r0)] => kn23_2_0 id sz el be te vo ro le co no de he n k r0
  | _, _ => none
def kn23_3_1 (a : Int) (b : Int) (c : Int) (d : Int) (t : Int) (v : Int) (n : Nat) (dr : Int) (l : List Ent) : CB := if n = l.length ∧ l.length ≤ 1048576 then some (newR a b c d ⟨t, v, l⟩ dr) else none
def kn23_3_0 (a : Int) (b : Int) (c : Int) (d : Int) (t : Int) (v : Int) (n : Nat) (dr : Int) (r0 : List (List Tree)) : CB := (unEnts r0).bind (kn23_3_1 a b c d t v n dr)
def kn23_3 : List TV → List (Nat × AObj) → CB
  | [.c (.t (.v (.int .i64 a))), .c (.t (.v (.int .i64 b))), .c (.t (.v (.int .i64 c))), .c (.t (.v (.int .i64 d))), .agg [.t (.v (.int .i64 t)), .t (.v (.int .i64 v)), .own 1 0 n], .c (.t (.v (.int .i64 dr)))], [(1, .arr 198 7 r0)] => kn23_3_0 a b c d t v n dr r0
  | _, _ => none
def kn23_4_1 (a : Int) (b : Int) (c : Int) (d : Int) (t : Int) (v : Int) (n : Nat) (dr : Int) (l : List Ent) : CB := if n = l.length ∧ l.length ≤ 1048576 then some (newR a b c d ⟨t, v, l⟩ dr) else none
def kn23_4_0 (a : Int) (b : Int) (c : Int) (d : Int) (t : Int) (v : Int) (n : Nat) (dr : Int) (r0 : List (List Tree)) : CB := (unEnts r0).bind (kn23_4_1 a b c d t v n dr)
def kn23_4 : List TV → List (Nat × AObj) → CB
  | [.c (.t (.v (.int .i64 a))), .c (.t (.v (.int .i64 b))), .c (.t (.v (.int .i64 c))), .c (.t (.v (.int .i64 d))), .agg [.t (.v (.int .i64 t)), .t (.v (.int .i64 v)), .own 1 0 n], .c (.t (.v (.int .i64 dr)))], [(1, .arr 198 7 r0)] => kn23_4_0 a b c d t v n dr r0
  | _, _ => none
def kn23_call (f : FuncId) (args : List TV) (o : List (Nat × AObj)) : CB := if f = 47 then orO (kn23_0 args o) (kn22.callB f args o) else if f = 51 then orO (kn23_1 args o) (kn22.callB f args o) else if f = 52 then orO (kn23_2 args o) (kn22.callB f args o) else if f = 48 then orO (kn23_3 args o) (kn22.callB f args o) else if f = 46 then orO (kn23_4 args o) (kn22.callB f args o) else kn22.callB f args o
def kn23 : Kn := { call := kn22.call, eqs := eqTys, callB := kn23_call }
attribute [go_sem] kn23_0_0 kn23_0_1 kn23_0 kn23_1_0 kn23_1_1 kn23_1 kn23_2_0 kn23_2_1 kn23_2 kn23_3_0 kn23_3_1 kn23_3 kn23_4_0 kn23_4_1 kn23_4 kn23_call kn23
theorem kn23_ok : ∀ f args o res o1 n1, kn23_call f args o = some (res, o1, n1) → TC Try.prog f args o (o.length + 1) res o1 n1 := by
  intro f args o res o1 n1 h
  unfold kn23_call at h
  split at h
  · rename_i e; subst e
    have hh := orO_elim h
    clear h
    rcases hh with h | h
    rotate_left
    · exact k22.callB _ _ _ _ _ _ h
    unfold kn23_0 at h
    split at h
    · rename_i r0; unfold kn23_0_0 at h
      have hb0 := Option.bind_eq_some_iff.1 h
      clear h
      obtain ⟨c, e0, h⟩ := hb0
      unfold kn23_0_1 at h
      split at h
      · rename_i hc; cases h; rw [unStb_ok e0]; exact toSt_tc c hc
      · cases h
    · cases h
  split at h
  · rename_i e; subst e
    have hh := orO_elim h
    clear h
    rcases hh with h | h
    rotate_left
    · exact k22.callB _ _ _ _ _ _ h
    unfold kn23_1 at h
    split at h
    · rename_i t v n k r0; unfold kn23_1_0 at h
      have hb0 := Option.bind_eq_some_iff.1 h
      clear h
      obtain ⟨l, e0, h⟩ := hb0
      unfold kn23_1_1 at h
      split at h
      · rename_i hc; cases h; rw [unEnts_ok e0]; obtain ⟨rfl, h1, h2⟩ := hc; exact markSt_tc t v l k h1 h2
      · cases h
    · cases h
  split at h
  · rename_i e; subst e
    have hh := orO_elim h
    clear h
    rcases hh with h | h
    rotate_left
    · exact k22.callB _ _ _ _ _ _ h
    unfold kn23_2 at h
    split at h
    · rename_i id sz el be te vo ro le co no de he n k r0; unfold kn23_2_0 at h
      have hb0 := Option.bind_eq_some_iff.1 h
      clear h
      obtain ⟨l, e0, h⟩ := hb0
      unfold kn23_2_1 at h
      split at h
      · rename_i hc; cases h; rw [unEnts_ok e0]; obtain ⟨rfl, h1, h2⟩ := hc; exact markNn_tc id sz el be te vo ro le co no de he l k h1 h2
      · cases h
    · cases h
  split at h
  · rename_i e; subst e
    have hh := orO_elim h
    clear h
    rcases hh with h | h
    rotate_left
    · exact k22.callB _ _ _ _ _ _ h
    unfold kn23_3 at h
    split at h
    · rename_i a b c d t v n dr r0; unfold kn23_3_0 at h
      have hb0 := Option.bind_eq_some_iff.1 h
      clear h
      obtain ⟨l, e0, h⟩ := hb0
      unfold kn23_3_1 at h
      split at h
      · rename_i hc; obtain ⟨rfl, h1⟩ := hc; have h3 := newI_tc a b c d ⟨t, v, l⟩ dr h1; rw [Option.some.inj h] at h3; rw [unEnts_ok e0]; exact h3
      · cases h
    · cases h
  split at h
  · rename_i e; subst e
    have hh := orO_elim h
    clear h
    rcases hh with h | h
    rotate_left
    · exact k22.callB _ _ _ _ _ _ h
    unfold kn23_4 at h
    split at h
    · rename_i a b c d t v n dr r0; unfold kn23_4_0 at h
      have hb0 := Option.bind_eq_some_iff.1 h
      clear h
      obtain ⟨l, e0, h⟩ := hb0
      unfold kn23_4_1 at h
      split at h
      · rename_i hc; obtain ⟨rfl, h1⟩ := hc; have h3 := newS_tc a b c d ⟨t, v, l⟩ dr h1; rw [Option.some.inj h] at h3; rw [unEnts_ok e0]; exact h3
      · cases h
    · cases h
  · exact k22.callB f args o res o1 n1 h
theorem k23 : KnOk Try.prog kn23 := ⟨k22.call, eqTysOk, kn23_ok⟩
attribute [go_sem] newR
end Go.Proofs.YtgalnkilcajgcaaA
