/- Rows of entries, for the door seat: what the laws do with them. -/
import Derived.Test.YtaolgdpkcbfocaaDoorFCalL
namespace Go.Proofs.YtaolgdpkcbfocaaDoorA
open Go.Proofs
set_option autoImplicit false
set_option linter.unusedVariables false
set_option linter.unusedSimpArgs false
set_option maxRecDepth 4000
set_option maxHeartbeats 8000000 in
theorem eqCm_tc (c d : Cm) : TC Tryd.prog 106 [.agg c.cv, .agg d.cv] [] 1 (bool (decide (c = d))) [] 1 := by
  refine tc_intro Tryd.func106 rfl 35 rfl (Nat.le_of_ble_eq_true rfl) (by decide) [4] rfl (by intro id x h; cases h) ?_
  intro w0 E0
  have kOk := k80
  obtain ⟨a, q, o, x, y, z⟩ := c
  obtain ⟨a', q', o', x', y', z'⟩ := d
  simp only [Cm.cv]
  repeat' (fail_if_success (with_reducible apply amR_id)); first
    | (refine guardP_mk (fun h => ?_) (fun h => ?_) <;> (refine go ?_; try simp only [decide_eq_true_eq, decide_eq_false_iff_not, Bool.not_true, Bool.not_false, Bool.not_eq_true', Bool.not_eq_false', beq_iff_eq, bne_iff_ne, beq_eq_false_iff_ne, bne_eq_false_iff_eq, ne_eq, Bool.false_eq_true, reduceCtorEq] at h))
    | (refine hK _ ?_; clear hK K Q1)
    | (refine ⟨by first | omega | (simp only [List.length_map, List.length_append, List.length_cons, List.length_nil, List.length_replicate, List.length_drop, List.length_take]; omega), by unfold maxLen; first | omega | (simp only [List.length_map, List.length_append, List.length_cons, List.length_nil, List.length_replicate, List.length_drop, List.length_take]; omega), ?_⟩)
    | (refine hK _ _ rfl ?_; clear hK K; try refine go ?_)
    | (refine am_retP rfl ?_ rfl; first | refine go ?_ | rfl)
    | (refine am_retC [] rfl ?_ rfl rfl; first | refine go ?_ | rfl)
    | (refine wkp ?_)
    | (refine am_rs tabOk kOk rfl fun K Q1 hK => ?_; refine go ?_)
    | (refine am_reg tabOk kOk rfl fun K Q1 hK => ?_; refine go ?_)
    | (refine am_ds mixed tabOk kOk rfl rfl fun K hK => ?_; refine go ?_)
    | (refine am_dreg mixed tabOk kOk rfl rfl fun K hK => ?_; refine go ?_)
  all_goals simp_all
def kn90_0_2 (c : Cm) (d : Cm) : Option TV := some (bool (decide (c = d)))
def kn90_0_1 (r1 : List CV) (c : Cm) : Option TV := (unCm r1).bind (kn90_0_2 c)
def kn90_0_0 (r0 : List CV) (r1 : List CV) : Option TV := (unCm r0).bind (kn90_0_1 r1)
def kn90_0 : List TV → Option TV
  | [.agg r0, .agg r1] => kn90_0_0 r0 r1
  | _ => none
def kn90_call (f : FuncId) (args : List TV) : Option TV := if f = 106 then orO (kn90_0 args) (kn80.call f args) else kn80.call f args
def kn90 : Kn := { call := kn90_call, eqs := eqTys, callB := kn80.callB }
attribute [go_sem] kn90_0_0 kn90_0_1 kn90_0_2 kn90_0 kn90_call kn90
theorem kn90_ok : ∀ f args res, kn90_call f args = some res → TC Tryd.prog f args [] 1 res [] 1 := by
  intro f args res h
  unfold kn90_call at h
  split at h
  · rename_i e; subst e
    have hh := orO_elim h
    clear h
    rcases hh with h | h
    rotate_left
    · exact k80.call _ _ _ h
    unfold kn90_0 at h
    split at h
    · rename_i r0 r1; unfold kn90_0_0 at h
      obtain ⟨c, e0, h⟩ := Option.bind_eq_some_iff.1 h
      unfold kn90_0_1 at h
      obtain ⟨d, e1, h⟩ := Option.bind_eq_some_iff.1 h
      unfold kn90_0_2 at h
      cases h; rw [unCm_ok e0, unCm_ok e1]; exact eqCm_tc c d
    · cases h
  · exact k80.call f args res h
theorem k90 : KnOk Tryd.prog kn90 := ⟨kn90_ok, eqTysOk, k80.callB⟩
structure Ent where
  term : Int
  m : Cm
deriving instance DecidableEq for Ent
def Ent.tr (e : Ent) : List Tree := [.v (.int .i64 e.term), .v (.int .i64 e.m.cl), .v (.int .i64 e.m.sq), .v (.int .i64 e.m.op), .v (.string e.m.k), .v (.string e.m.v), .v (.string e.m.o)]
def Ent.cv (e : Ent) : List CV := ci e.term :: e.m.cv
@[go_sem] theorem flat_Ent (l : List Ent) : flatRows (l.map Ent.tr) = true := flatRows_map (fun _ => rfl) l
def unEnt : List CV → Option Ent
  | [.t (.v (.int .i64 k)), .t (.v (.int .i64 a)), .t (.v (.int .i64 b)), .t (.v (.int .i64 o)), .t (.v (.string x)), .t (.v (.string y)), .t (.v (.string z))] => some ⟨k, ⟨a, b, o, x, y, z⟩⟩
  | _ => none
theorem unEnt_ok {xs : List CV} {c : Ent} (h : unEnt xs = some c) : xs = c.cv := by
  unfold unEnt at h
  split at h
  · cases h; rfl
  · cases h
attribute [go_sem] unEnt Ent.cv
theorem toEnt_tc (c : Ent) : TC Tryd.prog 87 [.agg c.cv] [] 1 (.agg c.cv) [] 1 := by
  refine tc_cell tabOk Tryd.func87 rfl 12 rfl (Nat.le_of_ble_eq_true rfl) (by decide) [(2, some 98)] rfl (by intro id x h; cases h) ?_
  intro w0 E0
  have kOk := k90
  obtain ⟨k, ⟨a, q, o, x, y, z⟩⟩ := c
  simp only [Ent.cv, Cm.cv]
  repeat' (fail_if_success (with_reducible apply amR_id)); first
    | (refine guardP_mk (fun h => ?_) (fun h => ?_) <;> (refine go ?_; try simp only [decide_eq_true_eq, decide_eq_false_iff_not, Bool.not_true, Bool.not_false, Bool.not_eq_true', Bool.not_eq_false', beq_iff_eq, bne_iff_ne, beq_eq_false_iff_ne, bne_eq_false_iff_eq, ne_eq, Bool.false_eq_true, reduceCtorEq] at h))
    | (refine hK _ ?_; clear hK K Q1)
    | (refine ⟨by first | omega | (simp only [List.length_map, List.length_append, List.length_cons, List.length_nil, List.length_replicate, List.length_drop, List.length_take]; omega), by unfold maxLen; first | omega | (simp only [List.length_map, List.length_append, List.length_cons, List.length_nil, List.length_replicate, List.length_drop, List.length_take]; omega), ?_⟩)
    | (refine hK _ _ rfl ?_; clear hK K; try refine go ?_)
    | (refine am_retP rfl ?_ rfl; first | refine go ?_ | rfl)
    | (refine am_retC [] rfl ?_ rfl rfl; first | refine go ?_ | rfl)
    | (refine wkp ?_)
    | (refine am_rs tabOk kOk rfl fun K Q1 hK => ?_; refine go ?_)
    | (refine am_reg tabOk kOk rfl fun K Q1 hK => ?_; refine go ?_)
    | (refine am_ds mixed tabOk kOk rfl rfl fun K hK => ?_; refine go ?_)
    | (refine am_dreg mixed tabOk kOk rfl rfl fun K hK => ?_; refine go ?_)
  all_goals rfl
theorem szEnt_tc (c : Ent) (left : Int) : TC Tryd.prog 85 [.agg c.cv, int left] [] 1 (int (if szCmF c.m left < 0 then -1 else szCmF c.m left)) [] 1 := by
  refine tc_intro Tryd.func85 rfl 12 rfl (Nat.le_of_ble_eq_true rfl) (by decide) [4] rfl (by intro id x h; cases h) ?_
  intro w0 E0
  have kOk := k90
  obtain ⟨k, ⟨a, q, o, x, y, z⟩⟩ := c
  simp only [Ent.cv, Cm.cv]
  repeat' (fail_if_success (with_reducible apply amR_id)); first
    | (refine guardP_mk (fun h => ?_) (fun h => ?_) <;> (refine go ?_; try simp only [decide_eq_true_eq, decide_eq_false_iff_not, Bool.not_true, Bool.not_false, Bool.not_eq_true', Bool.not_eq_false', beq_iff_eq, bne_iff_ne, beq_eq_false_iff_ne, bne_eq_false_iff_eq, ne_eq, Bool.false_eq_true, reduceCtorEq] at h))
    | (refine hK _ ?_; clear hK K Q1)
    | (refine ⟨by first | omega | (simp only [List.length_map, List.length_append, List.length_cons, List.length_nil, List.length_replicate, List.length_drop, List.length_take]; omega), by unfold maxLen; first | omega | (simp only [List.length_map, List.length_append, List.length_cons, List.length_nil, List.length_replicate, List.length_drop, List.length_take]; omega), ?_⟩)
    | (refine hK _ _ rfl ?_; clear hK K; try refine go ?_)
    | (refine am_retP rfl ?_ rfl; first | refine go ?_ | rfl)
    | (refine am_retC [] rfl ?_ rfl rfl; first | refine go ?_ | rfl)
    | (refine wkp ?_)
    | (refine am_rs tabOk kOk rfl fun K Q1 hK => ?_; refine go ?_)
    | (refine am_reg tabOk kOk rfl fun K Q1 hK => ?_; refine go ?_)
    | (refine am_ds mixed tabOk kOk rfl rfl fun K hK => ?_; refine go ?_)
    | (refine am_dreg mixed tabOk kOk rfl rfl fun K hK => ?_; refine go ?_)
  all_goals (simp (disch := omega) only [if_pos, if_neg]; try rfl)
set_option maxHeartbeats 8000000 in
theorem eqEnt_tc (c d : Ent) : TC Tryd.prog 89 [.agg c.cv, .agg d.cv] [] 1 (bool (decide (c = d))) [] 1 := by
  refine tc_intro Tryd.func89 rfl 16 rfl (Nat.le_of_ble_eq_true rfl) (by decide) [4] rfl (by intro id x h; cases h) ?_
  intro w0 E0
  have kOk := k90
  obtain ⟨k, ⟨a, q, o, x, y, z⟩⟩ := c
  obtain ⟨k', ⟨a', q', o', x', y', z'⟩⟩ := d
  simp only [Ent.cv, Cm.cv]
  repeat' (fail_if_success (with_reducible apply amR_id)); first
    | (refine guardP_mk (fun h => ?_) (fun h => ?_) <;> (refine go ?_; try simp only [decide_eq_true_eq, decide_eq_false_iff_not, Bool.not_true, Bool.not_false, Bool.not_eq_true', Bool.not_eq_false', beq_iff_eq, bne_iff_ne, beq_eq_false_iff_ne, bne_eq_false_iff_eq, ne_eq, Bool.false_eq_true, reduceCtorEq] at h))
    | (refine hK _ ?_; clear hK K Q1)
    | (refine ⟨by first | omega | (simp only [List.length_map, List.length_append, List.length_cons, List.length_nil, List.length_replicate, List.length_drop, List.length_take]; omega), by unfold maxLen; first | omega | (simp only [List.length_map, List.length_append, List.length_cons, List.length_nil, List.length_replicate, List.length_drop, List.length_take]; omega), ?_⟩)
    | (refine hK _ _ rfl ?_; clear hK K; try refine go ?_)
    | (refine am_retP rfl ?_ rfl; first | refine go ?_ | rfl)
    | (refine am_retC [] rfl ?_ rfl rfl; first | refine go ?_ | rfl)
    | (refine wkp ?_)
    | (refine am_rs tabOk kOk rfl fun K Q1 hK => ?_; refine go ?_)
    | (refine am_reg tabOk kOk rfl fun K Q1 hK => ?_; refine go ?_)
    | (refine am_ds mixed tabOk kOk rfl rfl fun K hK => ?_; refine go ?_)
    | (refine am_dreg mixed tabOk kOk rfl rfl fun K hK => ?_; refine go ?_)
  all_goals simp_all
def kn91_0_1 (c : Ent) : Option TV := some (.agg c.cv)
def kn91_0_0 (r0 : List CV) : Option TV := (unEnt r0).bind (kn91_0_1)
def kn91_0 : List TV → Option TV
  | [.agg r0] => kn91_0_0 r0
  | _ => none
def kn91_1_1 (n : Int) (c : Ent) : Option TV := some (int (if szCmF c.m n < 0 then -1 else szCmF c.m n))
def kn91_1_0 (n : Int) (r0 : List CV) : Option TV := (unEnt r0).bind (kn91_1_1 n)
def kn91_1 : List TV → Option TV
  | [.agg r0, .c (.t (.v (.int .i64 n)))] => kn91_1_0 n r0
  | _ => none
def kn91_2_2 (c : Ent) (d : Ent) : Option TV := some (bool (decide (c = d)))
def kn91_2_1 (r1 : List CV) (c : Ent) : Option TV := (unEnt r1).bind (kn91_2_2 c)
def kn91_2_0 (r0 : List CV) (r1 : List CV) : Option TV := (unEnt r0).bind (kn91_2_1 r1)
def kn91_2 : List TV → Option TV
  | [.agg r0, .agg r1] => kn91_2_0 r0 r1
  | _ => none
def kn91_call (f : FuncId) (args : List TV) : Option TV := if f = 87 then orO (kn91_0 args) (kn90.call f args) else if f = 85 then orO (kn91_1 args) (kn90.call f args) else if f = 89 then orO (kn91_2 args) (kn90.call f args) else kn90.call f args
def kn91 : Kn := { call := kn91_call, eqs := eqTys, callB := kn90.callB }
attribute [go_sem] kn91_0_0 kn91_0_1 kn91_0 kn91_1_0 kn91_1_1 kn91_1 kn91_2_0 kn91_2_1 kn91_2_2 kn91_2 kn91_call kn91
theorem kn91_ok : ∀ f args res, kn91_call f args = some res → TC Tryd.prog f args [] 1 res [] 1 := by
  intro f args res h
  unfold kn91_call at h
  split at h
  · rename_i e; subst e
    have hh := orO_elim h
    clear h
    rcases hh with h | h
    rotate_left
    · exact k90.call _ _ _ h
    unfold kn91_0 at h
    split at h
    · rename_i r0; unfold kn91_0_0 at h
      obtain ⟨c, e0, h⟩ := Option.bind_eq_some_iff.1 h
      unfold kn91_0_1 at h
      cases h; rw [unEnt_ok e0]; exact toEnt_tc c
    · cases h
  split at h
  · rename_i e; subst e
    have hh := orO_elim h
    clear h
    rcases hh with h | h
    rotate_left
    · exact k90.call _ _ _ h
    unfold kn91_1 at h
    split at h
    · rename_i r0 n; unfold kn91_1_0 at h
      obtain ⟨c, e0, h⟩ := Option.bind_eq_some_iff.1 h
      unfold kn91_1_1 at h
      cases h; rw [unEnt_ok e0]; exact szEnt_tc c n
    · cases h
  split at h
  · rename_i e; subst e
    have hh := orO_elim h
    clear h
    rcases hh with h | h
    rotate_left
    · exact k90.call _ _ _ h
    unfold kn91_2 at h
    split at h
    · rename_i r0 r1; unfold kn91_2_0 at h
      obtain ⟨c, e0, h⟩ := Option.bind_eq_some_iff.1 h
      unfold kn91_2_1 at h
      obtain ⟨d, e1, h⟩ := Option.bind_eq_some_iff.1 h
      unfold kn91_2_2 at h
      cases h; rw [unEnt_ok e0, unEnt_ok e1]; exact eqEnt_tc c d
    · cases h
  · exact k90.call f args res h
theorem k91 : KnOk Tryd.prog kn91 := ⟨kn91_ok, eqTysOk, k90.callB⟩
/-- A row half written. -/
def half {α : Type} (f : α → List Tree) (z : List Tree) (l : List α) (k : Nat) : List (List Tree) := (l.take k).map f ++ List.replicate (l.length - k) z
theorem half_zero {α : Type} {f : α → List Tree} {z : List Tree} {l : List α} : half f z l 0 = List.replicate l.length z := by simp [half]
theorem half_all {α : Type} {f : α → List Tree} {z : List Tree} {l : List α} : half f z l l.length = l.map f := by simp [half]
theorem half_at {α : Type} {f : α → List Tree} {z : List Tree} {l : List α} {k : Nat} (h : k < l.length) : (half f z l k)[k]? = some z := by
  unfold half
  have h1 : ((l.take k).map f).length = k := by simp; omega
  rw [List.getElem?_append_right (by omega), h1, Nat.sub_self, List.getElem?_replicate, if_pos (by omega)]
theorem half_set {α : Type} {f : α → List Tree} {z : List Tree} {l : List α} {k : Nat} {x : α} (h : l[k]? = some x) : (half f z l k).set k (f x) = half f z l (k + 1) := by
  have hk := (List.getElem?_eq_some_iff.1 h).1
  unfold half
  rw [List.set_append_right _ _ (by simp <;> omega), List.take_add_one, h]
  simp only [Option.toList_some, List.map_append, List.map_cons, List.map_nil, List.append_assoc, List.length_map, List.length_take, Nat.min_eq_left (Nat.le_of_lt hk), Nat.sub_self]
  congr 1
  obtain ⟨d, hd⟩ : ∃ d, l.length - k = d + 1 := ⟨l.length - k - 1, by omega⟩
  rw [hd, List.replicate_succ, List.set_cons_zero, show l.length - (k + 1) = d by omega]
  rfl
set_option maxHeartbeats 8000000 in
theorem toEnts_tc (l : List Ent) (hl : l.length ≤ 1048576) : TC Tryd.prog 63 [ro 7 (l.map Ent.tr)] [] 1 (.c (.own 1 0 l.length)) [(1, .arr 98 7 (l.map Ent.tr))] 2 := by
  refine tc_intro Tryd.func63 rfl 23 rfl (Nat.le_of_ble_eq_true rfl) (by decide) [2] rfl (by intro id x h; cases h) ?_
  intro w0 E0
  have kOk := k91
  have hp : (l.map Ent.tr).length = l.length := by simp
  refine wk1 ?_
  refine am_rs tabOk kOk rfl fun K Q1 hK => ?_
  refine go1 ?_
  refine ⟨⟨by omega, by unfold maxLen; omega⟩, ?_⟩
  refine hK _ ?_
  clear hK K Q1
  refine wk1 ?_
  refine am_tidy [(1, 1)] [0, 3, 4] 2 rfl ?_
  refine go1 ?_
  clear hp
  refine am_loop (l.length + 1) ?_
  suffices key : ∀ (d k : Nat), k + d = l.length → amR Tryd.prog _ _ _ (d + 1) ⟨[(0, ro 7 (l.map Ent.tr)), (3, .c (.own 1 0 l.length)), (4, int (k : Nat))], [(1, .arr 98 7 (half Ent.tr [Tree.v (Value.int IntKind.i64 0), Tree.v (Value.int IntKind.i64 0), Tree.v (Value.int IntKind.i64 0), Tree.v (Value.int IntKind.i64 0), Tree.v (Value.string { data := #[] }), Tree.v (Value.string { data := #[] }), Tree.v (Value.string { data := #[] })] l k))], 2⟩ from by
    have := key l.length 0 (by simp)
    rw [half_zero] at this
    exact this
  intro d
  induction d with
  | zero =>
    intro k hk
    have hp : (l.map Ent.tr).length = l.length := by simp
    refine amR_succ ?_
    refine wk1 ?_
    refine guardP_mk (fun h => ?_) (fun h => ?_)
    · simp at h; omega
    · refine go1 ?_
      refine wk1 ?_
      have hk' : k = l.length := hk
      subst hk'
      rw [half_all]
      refine am_retB [(1, 1)] rfl ?_ ?_ rfl <;> first | refine go ?_ | rfl
  | succ d ih =>
    intro k hk
    obtain ⟨e, he⟩ : ∃ e, l[k]? = some e := ⟨l[k]'(by omega), List.getElem?_eq_getElem (by omega)⟩
    have hp := (show (l.map Ent.tr).length = l.length ∧ (l.map Ent.tr)[k]? = some (Ent.tr e) ∧ (half Ent.tr [Tree.v (Value.int IntKind.i64 0), Tree.v (Value.int IntKind.i64 0), Tree.v (Value.int IntKind.i64 0), Tree.v (Value.int IntKind.i64 0), Tree.v (Value.string { data := #[] }), Tree.v (Value.string { data := #[] }), Tree.v (Value.string { data := #[] })] l k)[k]? = some [Tree.v (Value.int IntKind.i64 0), Tree.v (Value.int IntKind.i64 0), Tree.v (Value.int IntKind.i64 0), Tree.v (Value.int IntKind.i64 0), Tree.v (Value.string { data := #[] }), Tree.v (Value.string { data := #[] }), Tree.v (Value.string { data := #[] })] ∧ IntKind.i64.wrap ((k : Int) + 1) = ((k + 1 : Nat) : Int) ∧ (k < l.length) = True ∧ (half Ent.tr [Tree.v (Value.int IntKind.i64 0), Tree.v (Value.int IntKind.i64 0), Tree.v (Value.int IntKind.i64 0), Tree.v (Value.int IntKind.i64 0), Tree.v (Value.string { data := #[] }), Tree.v (Value.string { data := #[] }), Tree.v (Value.string { data := #[] })] l k).set k (Ent.tr e) = half Ent.tr [Tree.v (Value.int IntKind.i64 0), Tree.v (Value.int IntKind.i64 0), Tree.v (Value.int IntKind.i64 0), Tree.v (Value.int IntKind.i64 0), Tree.v (Value.string { data := #[] }), Tree.v (Value.string { data := #[] }), Tree.v (Value.string { data := #[] })] l (k + 1) from
      ⟨by simp, by rw [List.getElem?_map, he]; rfl, half_at (by omega), by rw [wrapN (by omega) (by omega)]; rfl, eq_true (by omega), half_set he⟩)
    obtain ⟨t, ⟨a, b, o, x, y, z⟩⟩ := e
    simp only [Ent.tr] at hp
    refine amR_succ ?_
    refine wk1 ?_
    refine guardP_mk (fun h => ?_) (fun h => ?_)
    · refine go1 ?_
      refine wk1 ?_
      refine amR_tidy [(1, 1)] [0, 3, 4] 2 rfl ?_
      refine go1 ?_
      exact ih (k + 1) (by omega)
    · simp at h; omega
set_option maxHeartbeats 8000000 in
theorem eqEnts_tc (l r : List Ent) (hl : l.length ≤ 1048576) : TC Tryd.prog 64 [ro 7 (l.map Ent.tr), ro 7 (r.map Ent.tr)] [] 1 (bool (decide (l = r))) [] 1 := by
  refine tc_intro Tryd.func64 rfl 27 rfl (Nat.le_of_ble_eq_true rfl) (by decide) [4] rfl (by intro id x h; cases h) ?_
  intro w0 E0
  have kOk := k91
  have hp : (l.map Ent.tr).length = l.length ∧ (r.map Ent.tr).length = r.length := by simp
  refine wk1 ?_
  refine guardP_mk (fun h => ?_) (fun h => ?_)
  · refine go1 ?_
    refine wk1 ?_
    refine am_retP rfl ?_ rfl
    refine go ?_
    have : ¬ l = r := fun e => by subst e; simp at h
    simp [this]
  have hlr : l.length = r.length := by simp at h; omega
  refine go1 ?_
  refine wk1 ?_
  refine am_tidy [] [0, 1, 5] 1 rfl ?_
  refine go1 ?_
  clear hp
  refine am_loop (l.length + 1) ?_
  suffices key : ∀ (d k : Nat), k + d = l.length → l.take k = r.take k → amR Tryd.prog _ _ _ (d + 1) ⟨[(0, ro 7 (l.map Ent.tr)), (1, ro 7 (r.map Ent.tr)), (5, int (k : Nat))], [], 1⟩ from key l.length 0 (by simp) rfl
  intro d
  induction d with
  | zero =>
    intro k hk ht
    have hp : (l.map Ent.tr).length = l.length := by simp
    refine amR_succ ?_
    refine wk1 ?_
    refine guardP_mk (fun h => ?_) (fun h => ?_)
    · simp at h; omega
    · refine go1 ?_
      refine wk1 ?_
      refine am_retP rfl ?_ rfl
      refine go ?_
      have : l = r := by rwa [List.take_of_length_le (by omega), List.take_of_length_le (by omega)] at ht
      simp [this]
  | succ d ih =>
    intro k hk ht
    obtain ⟨e, he⟩ : ∃ e, l[k]? = some e := ⟨l[k]'(by omega), List.getElem?_eq_getElem (by omega)⟩
    obtain ⟨e', he'⟩ : ∃ e', r[k]? = some e' := ⟨r[k]'(by omega), List.getElem?_eq_getElem (by omega)⟩
    have hp := (show (l.map Ent.tr).length = l.length ∧ (l.map Ent.tr)[k]? = some (Ent.tr e) ∧ (r.map Ent.tr)[k]? = some (Ent.tr e') ∧ IntKind.i64.wrap ((k : Int) + 1) = ((k + 1 : Nat) : Int) from
      ⟨by simp, by rw [List.getElem?_map, he]; rfl, by rw [List.getElem?_map, he']; rfl, by rw [wrapN (by omega) (by omega)]; rfl⟩)
    have hee : e = e' → l.take (k + 1) = r.take (k + 1) := fun h => by rw [List.take_add_one, List.take_add_one, ht, he, he', h]
    have hne : e ≠ e' → l ≠ r := fun hx h2 => by subst h2; rw [he] at he'; exact hx (Option.some.inj he')
    obtain ⟨t, ⟨a, b, o, x, y, z⟩⟩ := e
    obtain ⟨t', ⟨a', b', o', x', y', z'⟩⟩ := e'
    simp only [Ent.tr] at hp
    refine amR_succ ?_
    refine wk1 ?_
    refine guardP_mk (fun h => ?_) (fun h => ?_)
    · refine go1 ?_
      refine wk1 ?_
      refine guardP_mk (fun h => ?_) (fun h => ?_)
      · refine go1 ?_
        refine wk1 ?_
        refine am_retP rfl ?_ rfl
        refine go ?_
        have := hne (by intro hx; simp at h; simp_all)
        simp [this]
      · refine go1 ?_
        refine wk1 ?_
        refine amR_tidy [] [0, 1, 5] 1 rfl ?_
        refine go1 ?_
        exact ih (k + 1) (by omega) (hee (by simp at h; simp_all))
    · simp at h; omega
def unEntT : List Tree → Option Ent
  | [.v (.int .i64 k), .v (.int .i64 a), .v (.int .i64 b), .v (.int .i64 o), .v (.string x), .v (.string y), .v (.string z)] => some ⟨k, ⟨a, b, o, x, y, z⟩⟩
  | _ => none
theorem unEntT_ok {xs : List Tree} {c : Ent} (h : unEntT xs = some c) : xs = c.tr := by
  unfold unEntT at h
  split at h
  · cases h; rfl
  · cases h
def unEnts : List (List Tree) → Option (List Ent)
  | [] => some []
  | x :: l => match unEntT x, unEnts l with
    | some e, some es => some (e :: es)
    | _, _ => none
@[go_sem] theorem unEnts_map (l : List Ent) : unEnts (l.map Ent.tr) = some l := by
  induction l with
  | nil => rfl
  | cons e l ih => simp only [List.map_cons, unEnts, ih]; rfl
theorem unEnts_ok : ∀ {xs : List (List Tree)} {l : List Ent}, unEnts xs = some l → xs = l.map Ent.tr
  | [], l, h => by cases h; rfl
  | x :: xs, l, h => by
    unfold unEnts at h
    split at h
    · rename_i e es he hes
      cases h
      rw [unEntT_ok he, unEnts_ok hes]
      rfl
    · cases h
def dig (k : Int) : ByteArray := strOfNums [IntKind.u8.wrap (IntKind.i64.wrap (48 + k.tmod 10))]
def mtGo : Nat → Int → ByteArray → ByteArray
  | 0, _, out => out
  | f + 1, k, out => if 0 < k then mtGo f (IntKind.i64.wrap (k.tdiv 10)) (dig k ++ out) else out
def mtF (k : Int) : ByteArray := if k ≤ 0 then ⟨#[109, 48]⟩ else ⟨#[109]⟩ ++ mtGo k.toNat k ⟨#[]⟩
theorem sz109 {out : ByteArray} (h : out.size ≤ 1152921504606846976) : (((#[(109 : UInt8)].size + out.size : Nat) : Int) > IntKind.i64.max) = False := by
  have h1 : #[(109 : UInt8)].size = 1 := rfl
  have h2 : IntKind.i64.max = 9223372036854775807 := rfl
  rw [h1, h2]
  exact eq_false (by omega)
theorem szDig {out : ByteArray} {n : Int} (h : out.size ≤ 1152921504606846976) : ((((strOfNums [n]).size + out.size : Nat) : Int) > IntKind.i64.max) = False := by
  have h2 : IntKind.i64.max = 9223372036854775807 := rfl
  rw [strOfNums_size, h2]
  exact eq_false (by simp; omega)
set_option maxHeartbeats 8000000 in
theorem mt_tc (k : Int) (hk : k ≤ 1152921504606846976) : TC Tryd.prog 59 [int k] [] 1 (str (mtF k)) [] 1 := by
  refine tc_intro Tryd.func59 rfl 20 rfl (Nat.le_of_ble_eq_true rfl) (by decide) [2] rfl (by intro id x h; cases h) ?_
  intro w0 E0
  have kOk := k91
  refine wk ?_
  refine guardP_mk (fun h => ?_) (fun h => ?_)
  · refine go ?_
    refine wk ?_
    refine am_retP rfl ?_ rfl
    refine go ?_
    simp at h
    simp [mtF, h]
  · simp at h
    have hm : mtF k = ⟨#[109]⟩ ++ mtGo k.toNat k ⟨#[]⟩ := by unfold mtF; rw [if_neg (by omega)]
    rw [hm]
    refine go ?_
    refine wk ?_
    refine am_tidy [] [0, 3] 1 rfl ?_
    refine go ?_
    refine am_loop (k.toNat + 1) ?_
    suffices key : ∀ (f : Nat) (c : Int) (out : ByteArray), c.toNat ≤ f → out.size + f ≤ k.toNat → mtGo f c out = mtGo k.toNat k ⟨#[]⟩ → amR Tryd.prog _ _ _ (f + 1) ⟨[(0, int c), (3, str out)], [], 1⟩ from key k.toNat k _ (Nat.le_refl _) (Nat.le_of_eq (Nat.zero_add _)) rfl
    intro f
    induction f with
    | zero =>
      intro c out hc ho hr
      have hp := sz109 (out := out) (by omega)
      refine amR_succ ?_
      refine wk1 ?_
      refine guardP_mk (fun h => ?_) (fun h => ?_)
      · simp at h; omega
      · refine go1 ?_
        refine wk1 ?_
        refine am_retP rfl ?_ rfl
        refine go ?_
        rw [← hr]
        rfl
    | succ f ih =>
      intro c out hc ho hr
      have hp := And.intro (sz109 (out := out) (by omega)) (And.intro (fun n => szDig (out := out) (n := n) (by omega)) (show ((10 : Int) = 0) = False from by simp))
      refine amR_succ ?_
      refine wk1 ?_
      refine guardP_mk (fun h => ?_) (fun h => ?_)
      · simp at h
        refine go1 ?_
        refine wk1 ?_
        refine amR_tidy [] [0, 3] 1 rfl ?_
        refine go ?_
        refine ih _ _ ?_ ?_ ?_
        · rw [Int.tdiv_eq_ediv_of_nonneg (by omega), IntKind.wrap_i64]; omega
        · rw [ByteArray.size_append, strOfNums_size]; simp; omega
        · rw [← hr, mtGo, if_pos h]; rfl
      · simp at h
        refine go1 ?_
        refine wk1 ?_
        refine am_retP rfl ?_ rfl
        refine go ?_
        rw [← hr, mtGo, if_neg (by omega)]
def kn93_0_0 (n : Int) : Option TV := if n ≤ 1152921504606846976 then some (str (mtF n)) else none
def kn93_0 : List TV → Option TV
  | [.c (.t (.v (.int .i64 n)))] => kn93_0_0 n
  | _ => none
def kn93_call (f : FuncId) (args : List TV) : Option TV := if f = 59 then orO (kn93_0 args) (kn91.call f args) else kn91.call f args
def kn93 : Kn := { call := kn93_call, eqs := eqTys, callB := kn91.callB }
attribute [go_sem] kn93_0_0 kn93_0 kn93_call kn93
theorem kn93_ok : ∀ f args res, kn93_call f args = some res → TC Tryd.prog f args [] 1 res [] 1 := by
  intro f args res h
  unfold kn93_call at h
  split at h
  · rename_i e; subst e
    have hh := orO_elim h
    clear h
    rcases hh with h | h
    rotate_left
    · exact k91.call _ _ _ h
    unfold kn93_0 at h
    split at h
    · rename_i n; unfold kn93_0_0 at h
      split at h
      · rename_i hc; cases h; exact mt_tc n hc
      · cases h
    · cases h
  · exact k91.call f args res h
theorem k93 : KnOk Tryd.prog kn93 := ⟨kn93_ok, eqTysOk, k91.callB⟩
def mkE (c : Int) : Ent := ⟨c, ⟨c + 1, c + 1 + 1, c + 1 + 1 + 1, mtF (c + 1 + 1 + 1 + 1), mtF (c + 1 + 1 + 1 + 1 + 1), mtF (c + 1 + 1 + 1 + 1 + 1 + 1)⟩⟩
def mkEs (n : Nat) (k : Int) : List Ent := (List.range n).map fun i => mkE (k + 7 * (i : Nat))
theorem mkEs_len (n : Nat) (k : Int) : (mkEs n k).length = n := by simp [mkEs]
theorem mkEs_get {n i : Nat} (k : Int) (h : i < n) : (mkEs n k)[i]? = some (mkE (k + 7 * (i : Nat))) := by simp [mkEs, h]
/-- A row marked so far. -/
def partM (l : List Ent) (k : Int) (i : Nat) : List (List Tree) := (mkEs i k).map Ent.tr ++ (l.drop i).map Ent.tr
theorem partM_zero {l : List Ent} {k : Int} : partM l k 0 = l.map Ent.tr := by simp [partM, mkEs]
theorem partM_all {l : List Ent} {k : Int} : partM l k l.length = (mkEs l.length k).map Ent.tr := by simp [partM]
theorem partM_len {l : List Ent} {k : Int} {i : Nat} (h : i ≤ l.length) : (partM l k i).length = l.length := by simp [partM, mkEs_len]; omega
theorem partM_set {l : List Ent} {k : Int} {i : Nat} (h : i < l.length) : (partM l k i).set i (mkE (k + 7 * (i : Nat))).tr = partM l k (i + 1) := by
  unfold partM
  have h1 : ((mkEs i k).map Ent.tr).length = i := by simp [mkEs_len]
  rw [List.set_append_right _ _ (by omega), h1, Nat.sub_self, List.drop_eq_getElem_cons h, List.map_cons, List.set_cons_zero]
  have h2 : mkEs (i + 1) k = mkEs i k ++ [mkE (k + 7 * (i : Nat))] := by simp [mkEs, List.range_succ]
  rw [h2, List.map_append, List.append_assoc]
  rfl
theorem partM_at {l : List Ent} {k : Int} {i : Nat} {e : Ent} (h : l[i]? = some e) : (partM l k i)[i]? = some e.tr := by
  unfold partM
  have h1 : ((mkEs i k).map Ent.tr).length = i := by simp [mkEs_len]
  rw [List.getElem?_append_right (by omega), h1, Nat.sub_self, List.getElem?_map, List.getElem?_drop, Nat.add_zero, h]
  rfl
set_option maxHeartbeats 16000000 in
theorem markEs_tc (l : List Ent) (k : Int) (h0 : 0 ≤ k) (hk : k + 7 * l.length ≤ 1099511627776) : TC Tryd.prog 65 [.c (.own 1 0 l.length), int k] [(1, .arr 98 7 (l.map Ent.tr))] 2 (int (k + 7 * l.length)) [(1, .arr 98 7 ((mkEs l.length k).map Ent.tr))] 2 := by
  refine tc_intro Tryd.func65 rfl 71 rfl (Nat.le_of_ble_eq_true rfl) (by decide) [4] rfl dom1 ?_
  intro w0 E0
  have kOk := k93
  refine wk ?_
  refine am_tidy [(1, 1)] [0, 1, 5] 2 rfl ?_
  refine go ?_
  refine am_loop (l.length + 1) ?_
  suffices key : ∀ (d i : Nat) (c : Int), i + d = l.length → c = k + 7 * (i : Nat) → amR Tryd.prog _ _ _ (d + 1) ⟨[(0, .c (.own 1 0 l.length)), (1, int c), (5, int (i : Nat))], [(1, .arr 98 7 (partM l k i))], 2⟩ from by
    have := key l.length 0 k (by simp) (by simp)
    rw [partM_zero] at this
    exact this
  intro d
  induction d with
  | zero =>
    intro i c hi hc
    refine amR_succ ?_
    refine wk ?_
    refine guardP_mk (fun h => ?_) (fun h => ?_)
    · simp at h; omega
    · refine go ?_
      refine wk ?_
      have hi' : i = l.length := hi
      subst hi'
      rw [partM_all]
      subst hc
      refine am_retB [(1, 1)] rfl ?_ ?_ rfl <;> first | refine go ?_ | rfl
  | succ d ih =>
    intro i c hi hc
    obtain ⟨e, he⟩ : ∃ e, l[i]? = some e := ⟨l[i]'(by omega), List.getElem?_eq_getElem (by omega)⟩
    have hat := partM_at (k := k) he
    have hset := partM_set (k := k) (show i < l.length by omega)
    rw [← hc] at hset
    have hlen := partM_len (k := k) (show i ≤ l.length by omega)
    have hp := (show (partM l k i)[i]? = some e.tr ∧ (partM l k i).set i (mkE c).tr = partM l k (i + 1) ∧ (∀ r : List Tree, ((partM l k i).set i r)[i]? = some r) ∧ (∀ r s : List Tree, ((partM l k i).set i r).set i s = (partM l k i).set i s) ∧
        IntKind.i64.wrap ((i : Int) + 1) = ((i + 1 : Nat) : Int) ∧ (i < l.length) = True ∧ IntKind.i64.wrap (c + 1) = c + 1 ∧ IntKind.i64.wrap (c + 1 + 1) = c + 1 + 1 ∧ IntKind.i64.wrap (c + 1 + 1 + 1) = c + 1 + 1 + 1 ∧ IntKind.i64.wrap (c + 1 + 1 + 1 + 1) = c + 1 + 1 + 1 + 1 ∧
        IntKind.i64.wrap (c + 1 + 1 + 1 + 1 + 1) = c + 1 + 1 + 1 + 1 + 1 ∧ IntKind.i64.wrap (c + 1 + 1 + 1 + 1 + 1 + 1) = c + 1 + 1 + 1 + 1 + 1 + 1 ∧ IntKind.i64.wrap (c + 1 + 1 + 1 + 1 + 1 + 1 + 1) = c + 1 + 1 + 1 + 1 + 1 + 1 + 1 ∧ (c + 1 + 1 + 1 + 1 ≤ 1152921504606846976) = True ∧ (c + 1 + 1 + 1 + 1 + 1 ≤ 1152921504606846976) = True ∧ (c + 1 + 1 + 1 + 1 + 1 + 1 ≤ 1152921504606846976) = True from
      ⟨hat, hset, fun r => by rw [List.getElem?_set_self (by omega)], fun r s => by rw [List.set_set], by rw [wrapN (by omega) (by omega)]; rfl, eq_true (by omega), wrapN (by omega) (by omega), wrapN (by omega) (by omega), wrapN (by omega) (by omega), wrapN (by omega) (by omega), wrapN (by omega) (by omega), wrapN (by omega) (by omega), wrapN (by omega) (by omega), eq_true (by omega), eq_true (by omega), eq_true (by omega)⟩)
    clear hat hset hlen
    obtain ⟨t, ⟨a, b, o, x, y, z⟩⟩ := e
    simp only [Ent.tr, mkE] at hp
    refine amR_succ ?_
    refine wk1 ?_
    refine guardP_mk (fun h => ?_) (fun h => ?_)
    · refine go1 ?_
      refine wk1 ?_
      refine amR_tidy [(1, 1)] [0, 1, 5] 2 rfl ?_
      refine go1 ?_
      exact ih (i + 1) _ (by omega) (by omega)
    · simp at h; omega
theorem markEs0_tc (k : Int) : TC Tryd.prog 65 [lit (.slice none 0 0), int k] [] 1 (int k) [] 1 := by
  refine tc_intro Tryd.func65 rfl 71 rfl (Nat.le_of_ble_eq_true rfl) (by decide) [4] rfl (by intro id x h; cases h) ?_
  intro w0 E0
  have kOk := k93
  refine wk ?_
  refine am_loop 1 (amR_succ ?_)
  repeat' (fail_if_success (with_reducible apply amR_id)); first
    | (refine guardP_mk (fun h => ?_) (fun h => ?_) <;> (refine go ?_; try simp only [decide_eq_true_eq, decide_eq_false_iff_not, Bool.not_true, Bool.not_false, Bool.not_eq_true', Bool.not_eq_false', beq_iff_eq, bne_iff_ne, beq_eq_false_iff_ne, bne_eq_false_iff_eq, ne_eq, Bool.false_eq_true, reduceCtorEq] at h))
    | (refine hK _ ?_; clear hK K Q1)
    | (refine ⟨by first | omega | (simp only [List.length_map, List.length_append, List.length_cons, List.length_nil, List.length_replicate, List.length_drop, List.length_take]; omega), by unfold maxLen; first | omega | (simp only [List.length_map, List.length_append, List.length_cons, List.length_nil, List.length_replicate, List.length_drop, List.length_take]; omega), ?_⟩)
    | (refine hK _ _ rfl ?_; clear hK K; try refine go ?_)
    | (refine am_retP rfl ?_ rfl; first | refine go ?_ | rfl)
    | (refine am_retC [] rfl ?_ rfl rfl; first | refine go ?_ | rfl)
    | (refine wkp ?_)
    | (refine am_rs tabOk kOk rfl fun K Q1 hK => ?_; refine go ?_)
    | (refine am_reg tabOk kOk rfl fun K Q1 hK => ?_; refine go ?_)
    | (refine am_ds mixed tabOk kOk rfl rfl fun K hK => ?_; refine go ?_)
    | (refine am_dreg mixed tabOk kOk rfl rfl fun K hK => ?_; refine go ?_)
  all_goals first | rfl | (exfalso; omega)
def szE (e : Ent) (s : Int) : Int := if szCmF e.m s < 0 then -1 else szCmF e.m s
def szGo : List Ent → Int → Int
  | [], s => s
  | e :: l, s => if szE e s < 0 then -1 else szGo l (szE e s)
def szEsF (l : List Ent) (left : Int) : Int := if IntKind.i64.wrap (left - l.length) < 0 then -1 else szGo l (IntKind.i64.wrap (left - l.length))
theorem szGo_drop {l : List Ent} {k : Nat} {e : Ent} (h : l[k]? = some e) (s : Int) : szGo (l.drop k) s = if szE e s < 0 then -1 else szGo (l.drop (k + 1)) (szE e s) := by
  have hk := (List.getElem?_eq_some_iff.1 h).1
  rw [List.drop_eq_getElem_cons hk]
  have : l[k] = e := by rw [List.getElem?_eq_getElem hk] at h; exact Option.some.inj h
  simp only [szGo, this]
set_option maxHeartbeats 8000000 in
theorem szEs_tc (l : List Ent) (left : Int) (hl : l.length ≤ maxLen) : TC Tryd.prog 60 [ro 7 (l.map Ent.tr), int left] [] 1 (int (szEsF l left)) [] 1 := by
  refine tc_intro Tryd.func60 rfl 27 rfl (Nat.le_of_ble_eq_true rfl) (by decide) [4] rfl (by intro id x h; cases h) ?_
  intro w0 E0
  have kOk := k93
  unfold maxLen at hl
  have hp : (l.map Ent.tr).length = l.length := by simp
  refine wk1 ?_
  refine guardP_mk (fun h => ?_) (fun h => ?_)
  · refine go1 ?_
    refine wk1 ?_
    refine am_retP rfl ?_ rfl
    refine go ?_
    simp only [decide_eq_true_eq] at h
    simp only [szEsF, if_pos h]
  simp only [Bool.not_true, decide_eq_false_iff_not] at h
  have hs : szEsF l left = szGo l (IntKind.i64.wrap (left - l.length)) := by simp only [szEsF, if_neg h]
  rw [hs]
  refine go1 ?_
  refine wk1 ?_
  refine am_tidy [] [0, 1, 5] 1 rfl ?_
  refine go1 ?_
  clear hp
  refine am_loop (l.length + 1) ?_
  suffices key : ∀ (d k : Nat) (s : Int), k + d = l.length → szGo (l.drop k) s = szGo l (IntKind.i64.wrap (left - l.length)) → amR Tryd.prog _ _ _ (d + 1) ⟨[(0, ro 7 (l.map Ent.tr)), (1, int s), (5, int (k : Nat))], [], 1⟩ from key l.length 0 _ (by simp) rfl
  intro d
  induction d with
  | zero =>
    intro k s hk hf
    have hp : (l.map Ent.tr).length = l.length := by simp
    rw [List.drop_eq_nil_of_le (by omega)] at hf
    refine amR_succ ?_
    repeat' (fail_if_success (with_reducible apply amR_id)); first
      | (refine guardP_mk (fun h => ?_) (fun h => ?_) <;> (refine go1 ?_; try simp only [decide_eq_true_eq, decide_eq_false_iff_not, Bool.not_true, Bool.not_false, Bool.not_eq_true', Bool.not_eq_false', beq_iff_eq, bne_iff_ne, beq_eq_false_iff_ne, bne_eq_false_iff_eq, ne_eq, Bool.false_eq_true, reduceCtorEq] at h))
      | (refine hK _ ?_; clear hK K Q1)
      | (refine ⟨by first | omega | (simp only [List.length_map, List.length_append, List.length_cons, List.length_nil, List.length_replicate, List.length_drop, List.length_take]; omega), by unfold maxLen; first | omega | (simp only [List.length_map, List.length_append, List.length_cons, List.length_nil, List.length_replicate, List.length_drop, List.length_take]; omega), ?_⟩)
      | (refine hK _ _ rfl ?_; clear hK K; try refine go1 ?_)
      | (refine am_retP rfl ?_ rfl; first | refine go ?_ | rfl)
      | (refine am_retC [] rfl ?_ rfl rfl; first | refine go ?_ | rfl)
      | (refine wkq ?_)
      | (refine am_rs tabOk kOk rfl fun K Q1 hK => ?_; refine go1 ?_)
      | (refine am_reg tabOk kOk rfl fun K Q1 hK => ?_; refine go1 ?_)
      | (refine am_ds mixed tabOk kOk rfl rfl fun K hK => ?_; refine go1 ?_)
      | (refine am_dreg mixed tabOk kOk rfl rfl fun K hK => ?_; refine go1 ?_)
    all_goals first | (exfalso; omega) | (rw [← hf]; rfl)
  | succ d ih =>
    intro k s hk hf
    obtain ⟨e, he⟩ : ∃ e, l[k]? = some e := ⟨l[k]'(by omega), List.getElem?_eq_getElem (by omega)⟩
    rw [szGo_drop he] at hf
    have hp := (show (l.map Ent.tr).length = l.length ∧ (l.map Ent.tr)[k]? = some e.tr ∧ IntKind.i64.wrap ((k : Int) + 1) = ((k + 1 : Nat) : Int) from ⟨by simp, by rw [List.getElem?_map, he]; rfl, by rw [wrapN (by omega) (by omega)]; rfl⟩)
    have hz : szE e s = if szCmF e.m s < 0 then -1 else szCmF e.m s := rfl
    obtain ⟨t, ⟨a, b, o, x, y, z⟩⟩ := e
    simp only [Ent.tr] at hp
    refine amR_succ ?_
    repeat' (fail_if_success (with_reducible apply amR_id)); first
      | (refine guardP_mk (fun h => ?_) (fun h => ?_) <;> (refine go1 ?_; try simp only [decide_eq_true_eq, decide_eq_false_iff_not, Bool.not_true, Bool.not_false, Bool.not_eq_true', Bool.not_eq_false', beq_iff_eq, bne_iff_ne, beq_eq_false_iff_ne, bne_eq_false_iff_eq, ne_eq, Bool.false_eq_true, reduceCtorEq] at h))
      | (refine hK _ ?_; clear hK K Q1)
      | (refine ⟨by first | omega | (simp only [List.length_map, List.length_append, List.length_cons, List.length_nil, List.length_replicate, List.length_drop, List.length_take]; omega), by unfold maxLen; first | omega | (simp only [List.length_map, List.length_append, List.length_cons, List.length_nil, List.length_replicate, List.length_drop, List.length_take]; omega), ?_⟩)
      | (refine hK _ _ rfl ?_; clear hK K; try refine go1 ?_)
      | (refine am_retP rfl ?_ rfl; first | refine go ?_ | rfl)
      | (refine am_retC [] rfl ?_ rfl rfl; first | refine go ?_ | rfl)
      | (refine wkq ?_)
      | (refine am_rs tabOk kOk rfl fun K Q1 hK => ?_; refine go1 ?_)
      | (refine am_reg tabOk kOk rfl fun K Q1 hK => ?_; refine go1 ?_)
      | (refine am_ds mixed tabOk kOk rfl rfl fun K hK => ?_; refine go1 ?_)
      | (refine am_dreg mixed tabOk kOk rfl rfl fun K hK => ?_; refine go1 ?_)
    all_goals try (refine amR_tidy [] [0, 1, 5] 1 rfl ?_; refine go1 ?_; refine ih (k + 1) _ ?_ ?_)
    all_goals first | omega | (clear ih hp; simp only [TV.c.injEq, CV.t.injEq, Tree.v.injEq, Value.int.injEq, true_and]; rw [← hf]; simp only [szE] at *; grind) | (clear ih hp; simp only [szE] at *; grind) | (clear ih hp)
end Go.Proofs.YtaolgdpkcbfocaaDoorA
