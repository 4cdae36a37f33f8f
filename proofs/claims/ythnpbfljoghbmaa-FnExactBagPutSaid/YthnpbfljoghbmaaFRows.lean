/- Rows of entries and of numbers: the laws' own functions for them. -/
import Derived.Test.YthnpbfljoghbmaaFLawCm
namespace Go.Proofs.YthnpbfljoghbmaaA
open Go.Proofs
set_option autoImplicit false
set_option linter.unusedVariables false
set_option linter.unusedSimpArgs false
set_option maxRecDepth 4000
structure Ent where
  term : Int
  m : Cm
deriving instance DecidableEq for Ent
def Ent.tr (e : Ent) : List Tree := [.v (.int .i64 e.term), .v (.int .i64 e.m.cl), .v (.int .i64 e.m.sq), .v (.int .i64 e.m.op), .v (.string e.m.k), .v (.string e.m.v), .v (.string e.m.o)]
def Ent.cv (e : Ent) : List CV := ci e.term :: e.m.cv
def unEnt : List CV → Option Ent
  | [.t (.v (.int .i64 k)), .t (.v (.int .i64 a)), .t (.v (.int .i64 b)), .t (.v (.int .i64 o)), .t (.v (.string x)), .t (.v (.string y)), .t (.v (.string z))] => some ⟨k, ⟨a, b, o, x, y, z⟩⟩
  | _ => none
theorem unEnt_ok {xs : List CV} {c : Ent} (h : unEnt xs = some c) : xs = c.cv := by
  unfold unEnt at h
  split at h
  · cases h; rfl
  · cases h
attribute [go_sem] unEnt Ent.cv
theorem toEnt_tc (c : Ent) : TC Try.prog 112 [.agg c.cv] [] 1 (.agg c.cv) [] 1 := by
  refine tc_cell tabOk Try.func112 rfl 12 rfl (Nat.le_of_ble_eq_true rfl) (by decide) [(2, some 166)] rfl (by intro id x h; cases h) ?_
  intro w0 E0
  have kOk := kC
  obtain ⟨k, ⟨a, q, o, x, y, z⟩⟩ := c
  simp only [Ent.cv, Cm.cv]
  repeat' (fail_if_success (with_reducible apply amR_id)); first
    | (refine guardP_mk (fun h => ?_) (fun h => ?_) <;> (refine go ?_; try simp only [decide_eq_true_eq, decide_eq_false_iff_not, Bool.not_true, Bool.not_false, Bool.not_eq_true', Bool.not_eq_false', beq_iff_eq, bne_iff_ne, beq_eq_false_iff_ne, bne_eq_false_iff_eq, ne_eq, Bool.false_eq_true, reduceCtorEq] at h))
    | (refine hK _ ?_; clear hK K Q1)
    | (refine ⟨by first | omega | (simp only [List.length_map, List.length_append, List.length_cons, List.length_nil, List.length_replicate, List.length_drop, List.length_take]; omega), by unfold maxLen; first | omega | (simp only [List.length_map, List.length_append, List.length_cons, List.length_nil, List.length_replicate, List.length_drop, List.length_take]; omega), ?_⟩)
    | (refine hK _ _ rfl ?_; clear hK K; try refine go ?_)
    | (refine am_retP rfl ?_ rfl; first | refine go ?_ | rfl)
    | (refine am_retC [] rfl ?_ rfl rfl; first | refine go ?_ | rfl)
    | (refine wkp ?_)
    | (refine am_rs tabOk kOk rfl fun K Q1 hK => ?_; refine go ?_)
    | (refine am_reg tabOk kOk rfl fun K Q1 hK => ?_; refine go ?_)
    | (refine am_ds mixed tabOk kOk rfl rfl fun K hK => ?_; refine go ?_)
    | (refine am_dreg mixed tabOk kOk rfl rfl fun K hK => ?_; refine go ?_)
  all_goals rfl
theorem szEnt_tc (c : Ent) (left : Int) : TC Try.prog 110 [.agg c.cv, int left] [] 1 (int (if szCmF c.m left < 0 then -1 else szCmF c.m left)) [] 1 := by
  refine tc_intro Try.func110 rfl 12 rfl (Nat.le_of_ble_eq_true rfl) (by decide) [4] rfl (by intro id x h; cases h) ?_
  intro w0 E0
  have kOk := kC
  obtain ⟨k, ⟨a, q, o, x, y, z⟩⟩ := c
  simp only [Ent.cv, Cm.cv]
  repeat' (fail_if_success (with_reducible apply amR_id)); first
    | (refine guardP_mk (fun h => ?_) (fun h => ?_) <;> (refine go ?_; try simp only [decide_eq_true_eq, decide_eq_false_iff_not, Bool.not_true, Bool.not_false, Bool.not_eq_true', Bool.not_eq_false', beq_iff_eq, bne_iff_ne, beq_eq_false_iff_ne, bne_eq_false_iff_eq, ne_eq, Bool.false_eq_true, reduceCtorEq] at h))
    | (refine hK _ ?_; clear hK K Q1)
    | (refine ⟨by first | omega | (simp only [List.length_map, List.length_append, List.length_cons, List.length_nil, List.length_replicate, List.length_drop, List.length_take]; omega), by unfold maxLen; first | omega | (simp only [List.length_map, List.length_append, List.length_cons, List.length_nil, List.length_replicate, List.length_drop, List.length_take]; omega), ?_⟩)
    | (refine hK _ _ rfl ?_; clear hK K; try refine go ?_)
    | (refine am_retP rfl ?_ rfl; first | refine go ?_ | rfl)
    | (refine am_retC [] rfl ?_ rfl rfl; first | refine go ?_ | rfl)
    | (refine wkp ?_)
    | (refine am_rs tabOk kOk rfl fun K Q1 hK => ?_; refine go ?_)
    | (refine am_reg tabOk kOk rfl fun K Q1 hK => ?_; refine go ?_)
    | (refine am_ds mixed tabOk kOk rfl rfl fun K hK => ?_; refine go ?_)
    | (refine am_dreg mixed tabOk kOk rfl rfl fun K hK => ?_; refine go ?_)
  all_goals (simp (disch := omega) only [if_pos, if_neg]; try rfl)
set_option maxHeartbeats 8000000 in
theorem eqEnt_tc (c d : Ent) : TC Try.prog 117 [.agg c.cv, .agg d.cv] [] 1 (bool (decide (c = d))) [] 1 := by
  refine tc_intro Try.func117 rfl 16 rfl (Nat.le_of_ble_eq_true rfl) (by decide) [4] rfl (by intro id x h; cases h) ?_
  intro w0 E0
  have kOk := kC
  obtain ⟨k, ⟨a, q, o, x, y, z⟩⟩ := c
  obtain ⟨k', ⟨a', q', o', x', y', z'⟩⟩ := d
  simp only [Ent.cv, Cm.cv]
  repeat' (fail_if_success (with_reducible apply amR_id)); first
    | (refine guardP_mk (fun h => ?_) (fun h => ?_) <;> (refine go ?_; try simp only [decide_eq_true_eq, decide_eq_false_iff_not, Bool.not_true, Bool.not_false, Bool.not_eq_true', Bool.not_eq_false', beq_iff_eq, bne_iff_ne, beq_eq_false_iff_ne, bne_eq_false_iff_eq, ne_eq, Bool.false_eq_true, reduceCtorEq] at h))
    | (refine hK _ ?_; clear hK K Q1)
    | (refine ⟨by first | omega | (simp only [List.length_map, List.length_append, List.length_cons, List.length_nil, List.length_replicate, List.length_drop, List.length_take]; omega), by unfold maxLen; first | omega | (simp only [List.length_map, List.length_append, List.length_cons, List.length_nil, List.length_replicate, List.length_drop, List.length_take]; omega), ?_⟩)
    | (refine hK _ _ rfl ?_; clear hK K; try refine go ?_)
    | (refine am_retP rfl ?_ rfl; first | refine go ?_ | rfl)
    | (refine am_retC [] rfl ?_ rfl rfl; first | refine go ?_ | rfl)
    | (refine wkp ?_)
    | (refine am_rs tabOk kOk rfl fun K Q1 hK => ?_; refine go ?_)
    | (refine am_reg tabOk kOk rfl fun K Q1 hK => ?_; refine go ?_)
    | (refine am_ds mixed tabOk kOk rfl rfl fun K hK => ?_; refine go ?_)
    | (refine am_dreg mixed tabOk kOk rfl rfl fun K hK => ?_; refine go ?_)
  all_goals simp_all
def kn11_0_1 (c : Ent) : Option TV := some (.agg c.cv)
def kn11_0_0 (r0 : List CV) : Option TV := (unEnt r0).bind (kn11_0_1)
def kn11_0 : List TV → Option TV
  | [.agg r0] => kn11_0_0 r0
  | _ => none
def kn11_1_1 (n : Int) (c : Ent) : Option TV := some (int (if szCmF c.m n < 0 then -1 else szCmF c.m n))
def kn11_1_0 (n : Int) (r0 : List CV) : Option TV := (unEnt r0).bind (kn11_1_1 n)
def kn11_1 : List TV → Option TV
  | [.agg r0, .c (.t (.v (.int .i64 n)))] => kn11_1_0 n r0
  | _ => none
def kn11_2_2 (c : Ent) (d : Ent) : Option TV := some (bool (decide (c = d)))
def kn11_2_1 (r1 : List CV) (c : Ent) : Option TV := (unEnt r1).bind (kn11_2_2 c)
def kn11_2_0 (r0 : List CV) (r1 : List CV) : Option TV := (unEnt r0).bind (kn11_2_1 r1)
def kn11_2 : List TV → Option TV
  | [.agg r0, .agg r1] => kn11_2_0 r0 r1
  | _ => none
def kn11_call (f : FuncId) (args : List TV) : Option TV := if f = 112 then orO (kn11_0 args) (knC.call f args) else if f = 110 then orO (kn11_1 args) (knC.call f args) else if f = 117 then orO (kn11_2 args) (knC.call f args) else knC.call f args
def kn11 : Kn := { call := kn11_call, eqs := eqTys, callB := knC.callB }
attribute [go_sem] kn11_0_0 kn11_0_1 kn11_0 kn11_1_0 kn11_1_1 kn11_1 kn11_2_0 kn11_2_1 kn11_2_2 kn11_2 kn11_call kn11
theorem kn11_ok : ∀ f args res, kn11_call f args = some res → TC Try.prog f args [] 1 res [] 1 := by
  intro f args res h
  unfold kn11_call at h
  split at h
  · rename_i e; subst e
    have hh := orO_elim h
    clear h
    rcases hh with h | h
    rotate_left
    · exact kC.call _ _ _ h
    unfold kn11_0 at h
    split at h
    · rename_i r0; unfold kn11_0_0 at h
      obtain ⟨c, e0, h⟩ := Option.bind_eq_some_iff.1 h
      unfold kn11_0_1 at h
      cases h; rw [unEnt_ok e0]; exact toEnt_tc c
    · cases h
  split at h
  · rename_i e; subst e
    have hh := orO_elim h
    clear h
    rcases hh with h | h
    rotate_left
    · exact kC.call _ _ _ h
    unfold kn11_1 at h
    split at h
    · rename_i r0 n; unfold kn11_1_0 at h
      obtain ⟨c, e0, h⟩ := Option.bind_eq_some_iff.1 h
      unfold kn11_1_1 at h
      cases h; rw [unEnt_ok e0]; exact szEnt_tc c n
    · cases h
  split at h
  · rename_i e; subst e
    have hh := orO_elim h
    clear h
    rcases hh with h | h
    rotate_left
    · exact kC.call _ _ _ h
    unfold kn11_2 at h
    split at h
    · rename_i r0 r1; unfold kn11_2_0 at h
      obtain ⟨c, e0, h⟩ := Option.bind_eq_some_iff.1 h
      unfold kn11_2_1 at h
      obtain ⟨d, e1, h⟩ := Option.bind_eq_some_iff.1 h
      unfold kn11_2_2 at h
      cases h; rw [unEnt_ok e0, unEnt_ok e1]; exact eqEnt_tc c d
    · cases h
  · exact kC.call f args res h
theorem k11 : KnOk Try.prog kn11 := ⟨kn11_ok, eqTysOk, kC.callB⟩
/-- A row half written. -/
def half {α : Type} (f : α → List Tree) (z : List Tree) (l : List α) (k : Nat) : List (List Tree) := (l.take k).map f ++ List.replicate (l.length - k) z
theorem half_zero {α : Type} {f : α → List Tree} {z : List Tree} {l : List α} : half f z l 0 = List.replicate l.length z := by simp [half]
theorem half_all {α : Type} {f : α → List Tree} {z : List Tree} {l : List α} : half f z l l.length = l.map f := by simp [half]
theorem half_at {α : Type} {f : α → List Tree} {z : List Tree} {l : List α} {k : Nat} (h : k < l.length) : (half f z l k)[k]? = some z := by
  unfold half
  have h1 : ((l.take k).map f).length = k := by simp; omega
  rw [List.getElem?_append_right (by omega), h1, Nat.sub_self, List.getElem?_replicate, if_pos (by omega)]
theorem half_set {α : Type} {f : α → List Tree} {z : List Tree} {l : List α} {k : Nat} {x : α} (h : l[k]? = some x) : (half f z l k).set k (f x) = half f z l (k + 1) := by
  have hk := (List.getElem?_eq_some_iff.1 h).1
  unfold half
  rw [List.set_append_right _ _ (by simp <;> omega), List.take_add_one, h]
  simp only [Option.toList_some, List.map_append, List.map_cons, List.map_nil, List.append_assoc, List.length_map, List.length_take, Nat.min_eq_left (Nat.le_of_lt hk), Nat.sub_self]
  congr 1
  obtain ⟨d, hd⟩ : ∃ d, l.length - k = d + 1 := ⟨l.length - k - 1, by omega⟩
  rw [hd, List.replicate_succ, List.set_cons_zero, show l.length - (k + 1) = d by omega]
  rfl
set_option maxHeartbeats 8000000 in
theorem toEnts_tc (l : List Ent) (hl : l.length ≤ 1048576) : TC Try.prog 44 [ro 7 (l.map Ent.tr)] [] 1 (.c (.own 1 0 l.length)) [(1, .arr 166 7 (l.map Ent.tr))] 2 := by
  refine tc_intro Try.func44 rfl 23 rfl (Nat.le_of_ble_eq_true rfl) (by decide) [2] rfl (by intro id x h; cases h) ?_
  intro w0 E0
  have kOk := k11
  have hp : (l.map Ent.tr).length = l.length := by simp
  refine wk1 ?_
  refine am_rs tabOk kOk rfl fun K Q1 hK => ?_
  refine go1 ?_
  refine ⟨⟨by omega, by unfold maxLen; omega⟩, ?_⟩
  refine hK _ ?_
  clear hK K Q1
  refine wk1 ?_
  refine am_tidy [(1, 1)] [0, 3, 4] 2 rfl ?_
  refine go1 ?_
  clear hp
  refine am_loop (l.length + 1) ?_
  suffices key : ∀ (d k : Nat), k + d = l.length → amR Try.prog _ _ _ (d + 1) ⟨[(0, ro 7 (l.map Ent.tr)), (3, .c (.own 1 0 l.length)), (4, int (k : Nat))], [(1, .arr 166 7 (half Ent.tr [Tree.v (Value.int IntKind.i64 0), Tree.v (Value.int IntKind.i64 0), Tree.v (Value.int IntKind.i64 0), Tree.v (Value.int IntKind.i64 0), Tree.v (Value.string { data := #[] }), Tree.v (Value.string { data := #[] }), Tree.v (Value.string { data := #[] })] l k))], 2⟩ from by
    have := key l.length 0 (by simp)
    rw [half_zero] at this
    exact this
  intro d
  induction d with
  | zero =>
    intro k hk
    have hp : (l.map Ent.tr).length = l.length := by simp
    refine amR_succ ?_
    refine wk1 ?_
    refine guardP_mk (fun h => ?_) (fun h => ?_)
    · simp at h; omega
    · refine go1 ?_
      refine wk1 ?_
      have hk' : k = l.length := hk
      subst hk'
      rw [half_all]
      refine am_retB [(1, 1)] rfl ?_ ?_ rfl <;> first | refine go ?_ | rfl
  | succ d ih =>
    intro k hk
    obtain ⟨e, he⟩ : ∃ e, l[k]? = some e := ⟨l[k]'(by omega), List.getElem?_eq_getElem (by omega)⟩
    have hp := (show (l.map Ent.tr).length = l.length ∧ (l.map Ent.tr)[k]? = some (Ent.tr e) ∧ (half Ent.tr [Tree.v (Value.int IntKind.i64 0), Tree.v (Value.int IntKind.i64 0), Tree.v (Value.int IntKind.i64 0), Tree.v (Value.int IntKind.i64 0), Tree.v (Value.string { data := #[] }), Tree.v (Value.string { data := #[] }), Tree.v (Value.string { data := #[] })] l k)[k]? = some [Tree.v (Value.int IntKind.i64 0), Tree.v (Value.int IntKind.i64 0), Tree.v (Value.int IntKind.i64 0), Tree.v (Value.int IntKind.i64 0), Tree.v (Value.string { data := #[] }), Tree.v (Value.string { data := #[] }), Tree.v (Value.string { data := #[] })] ∧ IntKind.i64.wrap ((k : Int) + 1) = ((k + 1 : Nat) : Int) ∧ (k < l.length) = True ∧ (half Ent.tr [Tree.v (Value.int IntKind.i64 0), Tree.v (Value.int IntKind.i64 0), Tree.v (Value.int IntKind.i64 0), Tree.v (Value.int IntKind.i64 0), Tree.v (Value.string { data := #[] }), Tree.v (Value.string { data := #[] }), Tree.v (Value.string { data := #[] })] l k).set k (Ent.tr e) = half Ent.tr [Tree.v (Value.int IntKind.i64 0), Tree.v (Value.int IntKind.i64 0), Tree.v (Value.int IntKind.i64 0), Tree.v (Value.int IntKind.i64 0), Tree.v (Value.string { data := #[] }), Tree.v (Value.string { data := #[] }), Tree.v (Value.string { data := #[] })] l (k + 1) from
      ⟨by simp, by rw [List.getElem?_map, he]; rfl, half_at (by omega), by rw [wrapN (by omega) (by omega)]; rfl, eq_true (by omega), half_set he⟩)
    obtain ⟨t, ⟨a, b, o, x, y, z⟩⟩ := e
    simp only [Ent.tr] at hp
    refine amR_succ ?_
    refine wk1 ?_
    refine guardP_mk (fun h => ?_) (fun h => ?_)
    · refine go1 ?_
      refine wk1 ?_
      refine amR_tidy [(1, 1)] [0, 3, 4] 2 rfl ?_
      refine go1 ?_
      exact ih (k + 1) (by omega)
    · simp at h; omega
set_option maxHeartbeats 8000000 in
theorem eqEnts_tc (l r : List Ent) (hl : l.length ≤ 1048576) : TC Try.prog 47 [ro 7 (l.map Ent.tr), ro 7 (r.map Ent.tr)] [] 1 (bool (decide (l = r))) [] 1 := by
  refine tc_intro Try.func47 rfl 27 rfl (Nat.le_of_ble_eq_true rfl) (by decide) [4] rfl (by intro id x h; cases h) ?_
  intro w0 E0
  have kOk := k11
  have hp : (l.map Ent.tr).length = l.length ∧ (r.map Ent.tr).length = r.length := by simp
  refine wk1 ?_
  refine guardP_mk (fun h => ?_) (fun h => ?_)
  · refine go1 ?_
    refine wk1 ?_
    refine am_retP rfl ?_ rfl
    refine go ?_
    have : ¬ l = r := fun e => by subst e; simp at h
    simp [this]
  have hlr : l.length = r.length := by simp at h; omega
  refine go1 ?_
  refine wk1 ?_
  refine am_tidy [] [0, 1, 5] 1 rfl ?_
  refine go1 ?_
  clear hp
  refine am_loop (l.length + 1) ?_
  suffices key : ∀ (d k : Nat), k + d = l.length → l.take k = r.take k → amR Try.prog _ _ _ (d + 1) ⟨[(0, ro 7 (l.map Ent.tr)), (1, ro 7 (r.map Ent.tr)), (5, int (k : Nat))], [], 1⟩ from key l.length 0 (by simp) rfl
  intro d
  induction d with
  | zero =>
    intro k hk ht
    have hp : (l.map Ent.tr).length = l.length := by simp
    refine amR_succ ?_
    refine wk1 ?_
    refine guardP_mk (fun h => ?_) (fun h => ?_)
    · simp at h; omega
    · refine go1 ?_
      refine wk1 ?_
      refine am_retP rfl ?_ rfl
      refine go ?_
      have : l = r := by rwa [List.take_of_length_le (by omega), List.take_of_length_le (by omega)] at ht
      simp [this]
  | succ d ih =>
    intro k hk ht
    obtain ⟨e, he⟩ : ∃ e, l[k]? = some e := ⟨l[k]'(by omega), List.getElem?_eq_getElem (by omega)⟩
    obtain ⟨e', he'⟩ : ∃ e', r[k]? = some e' := ⟨r[k]'(by omega), List.getElem?_eq_getElem (by omega)⟩
    have hp := (show (l.map Ent.tr).length = l.length ∧ (l.map Ent.tr)[k]? = some (Ent.tr e) ∧ (r.map Ent.tr)[k]? = some (Ent.tr e') ∧ IntKind.i64.wrap ((k : Int) + 1) = ((k + 1 : Nat) : Int) from
      ⟨by simp, by rw [List.getElem?_map, he]; rfl, by rw [List.getElem?_map, he']; rfl, by rw [wrapN (by omega) (by omega)]; rfl⟩)
    have hee : e = e' → l.take (k + 1) = r.take (k + 1) := fun h => by rw [List.take_add_one, List.take_add_one, ht, he, he', h]
    have hne : e ≠ e' → l ≠ r := fun hx h2 => by subst h2; rw [he] at he'; exact hx (Option.some.inj he')
    obtain ⟨t, ⟨a, b, o, x, y, z⟩⟩ := e
    obtain ⟨t', ⟨a', b', o', x', y', z'⟩⟩ := e'
    simp only [Ent.tr] at hp
    refine amR_succ ?_
    refine wk1 ?_
    refine guardP_mk (fun h => ?_) (fun h => ?_)
    · refine go1 ?_
      refine wk1 ?_
      refine guardP_mk (fun h => ?_) (fun h => ?_)
      · refine go1 ?_
        refine wk1 ?_
        refine am_retP rfl ?_ rfl
        refine go ?_
        have := hne (by intro hx; simp at h; simp_all)
        simp [this]
      · refine go1 ?_
        refine wk1 ?_
        refine amR_tidy [] [0, 1, 5] 1 rfl ?_
        refine go1 ?_
        exact ih (k + 1) (by omega) (hee (by simp at h; simp_all))
    · simp at h; omega
def iTr (n : Int) : List Tree := [.v (.int .i64 n)]
set_option maxHeartbeats 8000000 in
theorem toInts_tc (l : List Int) (hl : l.length ≤ 1048576) : TC Try.prog 69 [ro 1 (l.map iTr)] [] 1 (.c (.own 1 0 l.length)) [(1, .arr 3 1 (l.map iTr))] 2 := by
  refine tc_intro Try.func69 rfl 22 rfl (Nat.le_of_ble_eq_true rfl) (by decide) [2] rfl (by intro id x h; cases h) ?_
  intro w0 E0
  have kOk := k11
  have hp : (l.map iTr).length = l.length := by simp
  refine wk1 ?_
  refine am_rs tabOk kOk rfl fun K Q1 hK => ?_
  refine go1 ?_
  refine ⟨⟨by omega, by unfold maxLen; omega⟩, ?_⟩
  refine hK _ ?_
  clear hK K Q1
  refine wk1 ?_
  refine am_tidy [(1, 1)] [0, 3, 4] 2 rfl ?_
  refine go1 ?_
  clear hp
  refine am_loop (l.length + 1) ?_
  suffices key : ∀ (d k : Nat), k + d = l.length → amR Try.prog _ _ _ (d + 1) ⟨[(0, ro 1 (l.map iTr)), (3, .c (.own 1 0 l.length)), (4, int (k : Nat))], [(1, .arr 3 1 (half iTr [Tree.v (Value.int IntKind.i64 0)] l k))], 2⟩ from by
    have := key l.length 0 (by simp)
    rw [half_zero] at this
    exact this
  intro d
  induction d with
  | zero =>
    intro k hk
    have hp : (l.map iTr).length = l.length := by simp
    refine amR_succ ?_
    refine wk1 ?_
    refine guardP_mk (fun h => ?_) (fun h => ?_)
    · simp at h; omega
    · refine go1 ?_
      refine wk1 ?_
      have hk' : k = l.length := hk
      subst hk'
      rw [half_all]
      refine am_retB [(1, 1)] rfl ?_ ?_ rfl <;> first | refine go ?_ | rfl
  | succ d ih =>
    intro k hk
    obtain ⟨e, he⟩ : ∃ e, l[k]? = some e := ⟨l[k]'(by omega), List.getElem?_eq_getElem (by omega)⟩
    have hp := (show (l.map iTr).length = l.length ∧ (l.map iTr)[k]? = some (iTr e) ∧ (half iTr [Tree.v (Value.int IntKind.i64 0)] l k)[k]? = some [Tree.v (Value.int IntKind.i64 0)] ∧ IntKind.i64.wrap ((k : Int) + 1) = ((k + 1 : Nat) : Int) ∧ (k < l.length) = True ∧ (half iTr [Tree.v (Value.int IntKind.i64 0)] l k).set k (iTr e) = half iTr [Tree.v (Value.int IntKind.i64 0)] l (k + 1) from
      ⟨by simp, by rw [List.getElem?_map, he]; rfl, half_at (by omega), by rw [wrapN (by omega) (by omega)]; rfl, eq_true (by omega), half_set he⟩)
    obtain e := e
    simp only [iTr] at hp
    refine amR_succ ?_
    refine wk1 ?_
    refine guardP_mk (fun h => ?_) (fun h => ?_)
    · refine go1 ?_
      refine wk1 ?_
      refine amR_tidy [(1, 1)] [0, 3, 4] 2 rfl ?_
      refine go1 ?_
      exact ih (k + 1) (by omega)
    · simp at h; omega
set_option maxHeartbeats 8000000 in
theorem eqInts_tc (l r : List Int) (hl : l.length ≤ 1048576) : TC Try.prog 76 [ro 1 (l.map iTr), ro 1 (r.map iTr)] [] 1 (bool (decide (l = r))) [] 1 := by
  refine tc_intro Try.func76 rfl 26 rfl (Nat.le_of_ble_eq_true rfl) (by decide) [4] rfl (by intro id x h; cases h) ?_
  intro w0 E0
  have kOk := k11
  have hp : (l.map iTr).length = l.length ∧ (r.map iTr).length = r.length := by simp
  refine wk1 ?_
  refine guardP_mk (fun h => ?_) (fun h => ?_)
  · refine go1 ?_
    refine wk1 ?_
    refine am_retP rfl ?_ rfl
    refine go ?_
    have : ¬ l = r := fun e => by subst e; simp at h
    simp [this]
  have hlr : l.length = r.length := by simp at h; omega
  refine go1 ?_
  refine wk1 ?_
  refine am_tidy [] [0, 1, 5] 1 rfl ?_
  refine go1 ?_
  clear hp
  refine am_loop (l.length + 1) ?_
  suffices key : ∀ (d k : Nat), k + d = l.length → l.take k = r.take k → amR Try.prog _ _ _ (d + 1) ⟨[(0, ro 1 (l.map iTr)), (1, ro 1 (r.map iTr)), (5, int (k : Nat))], [], 1⟩ from key l.length 0 (by simp) rfl
  intro d
  induction d with
  | zero =>
    intro k hk ht
    have hp : (l.map iTr).length = l.length := by simp
    refine amR_succ ?_
    refine wk1 ?_
    refine guardP_mk (fun h => ?_) (fun h => ?_)
    · simp at h; omega
    · refine go1 ?_
      refine wk1 ?_
      refine am_retP rfl ?_ rfl
      refine go ?_
      have : l = r := by rwa [List.take_of_length_le (by omega), List.take_of_length_le (by omega)] at ht
      simp [this]
  | succ d ih =>
    intro k hk ht
    obtain ⟨e, he⟩ : ∃ e, l[k]? = some e := ⟨l[k]'(by omega), List.getElem?_eq_getElem (by omega)⟩
    obtain ⟨e', he'⟩ : ∃ e', r[k]? = some e' := ⟨r[k]'(by omega), List.getElem?_eq_getElem (by omega)⟩
    have hp := (show (l.map iTr).length = l.length ∧ (l.map iTr)[k]? = some (iTr e) ∧ (r.map iTr)[k]? = some (iTr e') ∧ IntKind.i64.wrap ((k : Int) + 1) = ((k + 1 : Nat) : Int) from
      ⟨by simp, by rw [List.getElem?_map, he]; rfl, by rw [List.getElem?_map, he']; rfl, by rw [wrapN (by omega) (by omega)]; rfl⟩)
    have hee : e = e' → l.take (k + 1) = r.take (k + 1) := fun h => by rw [List.take_add_one, List.take_add_one, ht, he, he', h]
    have hne : e ≠ e' → l ≠ r := fun hx h2 => by subst h2; rw [he] at he'; exact hx (Option.some.inj he')
    obtain e := e
    obtain e' := e'
    simp only [iTr] at hp
    refine amR_succ ?_
    refine wk1 ?_
    refine guardP_mk (fun h => ?_) (fun h => ?_)
    · refine go1 ?_
      refine wk1 ?_
      refine guardP_mk (fun h => ?_) (fun h => ?_)
      · refine go1 ?_
        refine wk1 ?_
        refine am_retP rfl ?_ rfl
        refine go ?_
        have := hne (by intro hx; simp at h; simp_all)
        simp [this]
      · refine go1 ?_
        refine wk1 ?_
        refine amR_tidy [] [0, 1, 5] 1 rfl ?_
        refine go1 ?_
        exact ih (k + 1) (by omega) (hee (by simp at h; simp_all))
    · simp at h; omega
end Go.Proofs.YthnpbfljoghbmaaA
