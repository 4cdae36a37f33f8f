/- Rows of records, for the door seat: what the laws do with them. -/
import Derived.Test.YtaolgdpkcbfocaaDoorGMsg2
namespace Go.Proofs.YtaolgdpkcbfocaaDoorA
open Go.Proofs
set_option autoImplicit false
set_option linter.unusedVariables false
set_option linter.unusedSimpArgs false
set_option maxRecDepth 4000
structure Rec where
  (kd te vo ix : Int)
  e : Ent
deriving instance DecidableEq for Rec
def Rec.tr (r : Rec) : List Tree := [.v (.int .i64 r.kd), .v (.int .i64 r.te), .v (.int .i64 r.vo), .v (.int .i64 r.ix), .v (.int .i64 r.e.term), .v (.int .i64 r.e.m.cl), .v (.int .i64 r.e.m.sq), .v (.int .i64 r.e.m.op), .v (.string r.e.m.k), .v (.string r.e.m.v), .v (.string r.e.m.o)]
def Rec.cv (r : Rec) : List CV := ci r.kd :: ci r.te :: ci r.vo :: ci r.ix :: ci r.e.term :: r.e.m.cv
@[go_sem] theorem flat_Rec (l : List Rec) : flatRows (l.map Rec.tr) = true := flatRows_map (fun _ => rfl) l
def unRec : List CV → Option Rec
  | [.t (.v (.int .i64 kd)), .t (.v (.int .i64 te)), .t (.v (.int .i64 vo)), .t (.v (.int .i64 ix)), .t (.v (.int .i64 k)), .t (.v (.int .i64 a)), .t (.v (.int .i64 b)), .t (.v (.int .i64 o)), .t (.v (.string x)), .t (.v (.string y)), .t (.v (.string z))] => some ⟨kd, te, vo, ix, ⟨k, ⟨a, b, o, x, y, z⟩⟩⟩
  | _ => none
theorem unRec_ok {xs : List CV} {c : Rec} (h : unRec xs = some c) : xs = c.cv := by
  unfold unRec at h
  split at h
  · cases h; rfl
  · cases h
def unRecT : List Tree → Option Rec
  | [.v (.int .i64 kd), .v (.int .i64 te), .v (.int .i64 vo), .v (.int .i64 ix), .v (.int .i64 k), .v (.int .i64 a), .v (.int .i64 b), .v (.int .i64 o), .v (.string x), .v (.string y), .v (.string z)] => some ⟨kd, te, vo, ix, ⟨k, ⟨a, b, o, x, y, z⟩⟩⟩
  | _ => none
theorem unRecT_ok {xs : List Tree} {c : Rec} (h : unRecT xs = some c) : xs = c.tr := by
  unfold unRecT at h
  split at h
  · cases h; rfl
  · cases h
def unRecs : List (List Tree) → Option (List Rec)
  | [] => some []
  | x :: l => match unRecT x, unRecs l with
    | some e, some es => some (e :: es)
    | _, _ => none
@[go_sem] theorem unRecs_map (l : List Rec) : unRecs (l.map Rec.tr) = some l := by
  induction l with
  | nil => rfl
  | cons e l ih => simp only [List.map_cons, unRecs, ih]; rfl
theorem unRecs_ok : ∀ {xs : List (List Tree)} {l : List Rec}, unRecs xs = some l → xs = l.map Rec.tr
  | [], l, h => by cases h; rfl
  | x :: xs, l, h => by
    unfold unRecs at h
    split at h
    · rename_i e es he hes
      cases h
      rw [unRecT_ok he, unRecs_ok hes]
      rfl
    · cases h
attribute [go_sem] unRec Rec.cv
set_option maxHeartbeats 8000000 in
theorem eqRec_tc (c d : Rec) : TC Tryd.prog 58 [.agg c.cv, .agg d.cv] [] 1 (bool (decide (c = d))) [] 1 := by
  refine tc_intro Tryd.func58 rfl 31 rfl (Nat.le_of_ble_eq_true rfl) (by decide) [4] rfl (by intro id x h; cases h) ?_
  intro w0 E0
  have kOk := k93
  obtain ⟨kd, te, vo, ix, ⟨k, ⟨a, q, o, x, y, z⟩⟩⟩ := c
  obtain ⟨kd', te', vo', ix', ⟨k', ⟨a', q', o', x', y', z'⟩⟩⟩ := d
  simp only [Rec.cv, Cm.cv]
  repeat' (fail_if_success (with_reducible apply amR_id)); first
    | (refine guardP_mk (fun h => ?_) (fun h => ?_) <;> (refine go ?_; try simp only [decide_eq_true_eq, decide_eq_false_iff_not, Bool.not_true, Bool.not_false, Bool.not_eq_true', Bool.not_eq_false', beq_iff_eq, bne_iff_ne, beq_eq_false_iff_ne, bne_eq_false_iff_eq, ne_eq, Bool.false_eq_true, reduceCtorEq] at h))
    | (refine hK _ ?_; clear hK K Q1)
    | (refine ⟨by first | omega | (simp only [List.length_map, List.length_append, List.length_cons, List.length_nil, List.length_replicate, List.length_drop, List.length_take]; omega), by unfold maxLen; first | omega | (simp only [List.length_map, List.length_append, List.length_cons, List.length_nil, List.length_replicate, List.length_drop, List.length_take]; omega), ?_⟩)
    | (refine hK _ _ rfl ?_; clear hK K; try refine go ?_)
    | (refine am_retP rfl ?_ rfl; first | refine go ?_ | rfl)
    | (refine am_retC [] rfl ?_ rfl rfl; first | refine go ?_ | rfl)
    | (refine wkp ?_)
    | (refine am_rs tabOk kOk rfl fun K Q1 hK => ?_; refine go ?_)
    | (refine am_reg tabOk kOk rfl fun K Q1 hK => ?_; refine go ?_)
    | (refine am_ds mixed tabOk kOk rfl rfl fun K hK => ?_; refine go ?_)
    | (refine am_dreg mixed tabOk kOk rfl rfl fun K hK => ?_; refine go ?_)
  all_goals simp_all
def szR (r : Rec) (s : Int) : Int := if szE r.e s < 0 then -1 else szE r.e s
theorem toRec_tc (c : Rec) : TC Tryd.prog 56 [.agg c.cv] [] 1 (.agg c.cv) [] 1 := by
  refine tc_cell tabOk Tryd.func56 rfl 21 rfl (Nat.le_of_ble_eq_true rfl) (by decide) [(2, some 100)] rfl (by intro id x h; cases h) ?_
  intro w0 E0
  have kOk := k93
  obtain ⟨kd, te, vo, ix, ⟨k, ⟨a, q, o, x, y, z⟩⟩⟩ := c
  simp only [Rec.cv, Cm.cv]
  repeat' (fail_if_success (with_reducible apply amR_id)); first
    | (refine guardP_mk (fun h => ?_) (fun h => ?_) <;> (refine go ?_; try simp only [decide_eq_true_eq, decide_eq_false_iff_not, Bool.not_true, Bool.not_false, Bool.not_eq_true', Bool.not_eq_false', beq_iff_eq, bne_iff_ne, beq_eq_false_iff_ne, bne_eq_false_iff_eq, ne_eq, Bool.false_eq_true, reduceCtorEq] at h))
    | (refine hK _ ?_; clear hK K Q1)
    | (refine ⟨by first | omega | (simp only [List.length_map, List.length_append, List.length_cons, List.length_nil, List.length_replicate, List.length_drop, List.length_take]; omega), by unfold maxLen; first | omega | (simp only [List.length_map, List.length_append, List.length_cons, List.length_nil, List.length_replicate, List.length_drop, List.length_take]; omega), ?_⟩)
    | (refine hK _ _ rfl ?_; clear hK K; try refine go ?_)
    | (refine am_retP rfl ?_ rfl; first | refine go ?_ | rfl)
    | (refine am_retC [] rfl ?_ rfl rfl; first | refine go ?_ | rfl)
    | (refine wkp ?_)
    | (refine am_rs tabOk kOk rfl fun K Q1 hK => ?_; refine go ?_)
    | (refine am_reg tabOk kOk rfl fun K Q1 hK => ?_; refine go ?_)
    | (refine am_ds mixed tabOk kOk rfl rfl fun K hK => ?_; refine go ?_)
    | (refine am_dreg mixed tabOk kOk rfl rfl fun K hK => ?_; refine go ?_)
  all_goals rfl
theorem szRec_tc (c : Rec) (left : Int) : TC Tryd.prog 53 [.agg c.cv, int left] [] 1 (int (szR c left)) [] 1 := by
  refine tc_intro Tryd.func53 rfl 12 rfl (Nat.le_of_ble_eq_true rfl) (by decide) [4] rfl (by intro id x h; cases h) ?_
  intro w0 E0
  have kOk := k93
  obtain ⟨kd, te, vo, ix, ⟨k, ⟨a, q, o, x, y, z⟩⟩⟩ := c
  simp only [Rec.cv, Cm.cv]
  repeat' (fail_if_success (with_reducible apply amR_id)); first
    | (refine guardP_mk (fun h => ?_) (fun h => ?_) <;> (refine go ?_; try simp only [decide_eq_true_eq, decide_eq_false_iff_not, Bool.not_true, Bool.not_false, Bool.not_eq_true', Bool.not_eq_false', beq_iff_eq, bne_iff_ne, beq_eq_false_iff_ne, bne_eq_false_iff_eq, ne_eq, Bool.false_eq_true, reduceCtorEq] at h))
    | (refine hK _ ?_; clear hK K Q1)
    | (refine ⟨by first | omega | (simp only [List.length_map, List.length_append, List.length_cons, List.length_nil, List.length_replicate, List.length_drop, List.length_take]; omega), by unfold maxLen; first | omega | (simp only [List.length_map, List.length_append, List.length_cons, List.length_nil, List.length_replicate, List.length_drop, List.length_take]; omega), ?_⟩)
    | (refine hK _ _ rfl ?_; clear hK K; try refine go ?_)
    | (refine am_retP rfl ?_ rfl; first | refine go ?_ | rfl)
    | (refine am_retC [] rfl ?_ rfl rfl; first | refine go ?_ | rfl)
    | (refine wkp ?_)
    | (refine am_rs tabOk kOk rfl fun K Q1 hK => ?_; refine go ?_)
    | (refine am_reg tabOk kOk rfl fun K Q1 hK => ?_; refine go ?_)
    | (refine am_ds mixed tabOk kOk rfl rfl fun K hK => ?_; refine go ?_)
    | (refine am_dreg mixed tabOk kOk rfl rfl fun K hK => ?_; refine go ?_)
  all_goals (simp only [szR, szE]; simp (disch := omega) only [if_pos, if_neg]; try rfl)
def kn100_0_2 (c : Rec) (d : Rec) : Option TV := some (bool (decide (c = d)))
def kn100_0_1 (r1 : List CV) (c : Rec) : Option TV := (unRec r1).bind (kn100_0_2 c)
def kn100_0_0 (r0 : List CV) (r1 : List CV) : Option TV := (unRec r0).bind (kn100_0_1 r1)
def kn100_0 : List TV → Option TV
  | [.agg r0, .agg r1] => kn100_0_0 r0 r1
  | _ => none
def kn100_1_1 (c : Rec) : Option TV := some (.agg c.cv)
def kn100_1_0 (r0 : List CV) : Option TV := (unRec r0).bind (kn100_1_1)
def kn100_1 : List TV → Option TV
  | [.agg r0] => kn100_1_0 r0
  | _ => none
def kn100_2_1 (n : Int) (c : Rec) : Option TV := some (int (szR c n))
def kn100_2_0 (n : Int) (r0 : List CV) : Option TV := (unRec r0).bind (kn100_2_1 n)
def kn100_2 : List TV → Option TV
  | [.agg r0, .c (.t (.v (.int .i64 n)))] => kn100_2_0 n r0
  | _ => none
def kn100_call (f : FuncId) (args : List TV) : Option TV := if f = 58 then orO (kn100_0 args) (kn93.call f args) else if f = 56 then orO (kn100_1 args) (kn93.call f args) else if f = 53 then orO (kn100_2 args) (kn93.call f args) else kn93.call f args
def kn100 : Kn := { call := kn100_call, eqs := eqTys, callB := kn93.callB }
attribute [go_sem] kn100_0_0 kn100_0_1 kn100_0_2 kn100_0 kn100_1_0 kn100_1_1 kn100_1 kn100_2_0 kn100_2_1 kn100_2 kn100_call kn100
theorem kn100_ok : ∀ f args res, kn100_call f args = some res → TC Tryd.prog f args [] 1 res [] 1 := by
  intro f args res h
  unfold kn100_call at h
  split at h
  · rename_i e; subst e
    have hh := orO_elim h
    clear h
    rcases hh with h | h
    rotate_left
    · exact k93.call _ _ _ h
    unfold kn100_0 at h
    split at h
    · rename_i r0 r1; unfold kn100_0_0 at h
      obtain ⟨c, e0, h⟩ := Option.bind_eq_some_iff.1 h
      unfold kn100_0_1 at h
      obtain ⟨d, e1, h⟩ := Option.bind_eq_some_iff.1 h
      unfold kn100_0_2 at h
      cases h; rw [unRec_ok e0, unRec_ok e1]; exact eqRec_tc c d
    · cases h
  split at h
  · rename_i e; subst e
    have hh := orO_elim h
    clear h
    rcases hh with h | h
    rotate_left
    · exact k93.call _ _ _ h
    unfold kn100_1 at h
    split at h
    · rename_i r0; unfold kn100_1_0 at h
      obtain ⟨c, e0, h⟩ := Option.bind_eq_some_iff.1 h
      unfold kn100_1_1 at h
      cases h; rw [unRec_ok e0]; exact toRec_tc c
    · cases h
  split at h
  · rename_i e; subst e
    have hh := orO_elim h
    clear h
    rcases hh with h | h
    rotate_left
    · exact k93.call _ _ _ h
    unfold kn100_2 at h
    split at h
    · rename_i r0 n; unfold kn100_2_0 at h
      obtain ⟨c, e0, h⟩ := Option.bind_eq_some_iff.1 h
      unfold kn100_2_1 at h
      cases h; rw [unRec_ok e0]; exact szRec_tc c n
    · cases h
  · exact k93.call f args res h
theorem k100 : KnOk Tryd.prog kn100 := ⟨kn100_ok, eqTysOk, k93.callB⟩
set_option maxHeartbeats 8000000 in
theorem eqRecs_tc (l r : List Rec) (hl : l.length ≤ 1048576) : TC Tryd.prog 24 [ro 11 (l.map Rec.tr), ro 11 (r.map Rec.tr)] [] 1 (bool (decide (l = r))) [] 1 := by
  refine tc_intro Tryd.func24 rfl 27 rfl (Nat.le_of_ble_eq_true rfl) (by decide) [4] rfl (by intro id x h; cases h) ?_
  intro w0 E0
  have kOk := k100
  have hp : (l.map Rec.tr).length = l.length ∧ (r.map Rec.tr).length = r.length := by simp
  refine wk1 ?_
  refine guardP_mk (fun h => ?_) (fun h => ?_)
  · refine go1 ?_
    refine wk1 ?_
    refine am_retP rfl ?_ rfl
    refine go ?_
    have : ¬ l = r := fun e => by subst e; simp at h
    simp [this]
  have hlr : l.length = r.length := by simp at h; omega
  refine go1 ?_
  refine wk1 ?_
  refine am_tidy [] [0, 1, 5] 1 rfl ?_
  refine go1 ?_
  clear hp
  refine am_loop (l.length + 1) ?_
  suffices key : ∀ (d k : Nat), k + d = l.length → l.take k = r.take k → amR Tryd.prog _ _ _ (d + 1) ⟨[(0, ro 11 (l.map Rec.tr)), (1, ro 11 (r.map Rec.tr)), (5, int (k : Nat))], [], 1⟩ from key l.length 0 (by simp) rfl
  intro d
  induction d with
  | zero =>
    intro k hk ht
    have hp : (l.map Rec.tr).length = l.length := by simp
    refine amR_succ ?_
    refine wk1 ?_
    refine guardP_mk (fun h => ?_) (fun h => ?_)
    · simp at h; omega
    · refine go1 ?_
      refine wk1 ?_
      refine am_retP rfl ?_ rfl
      refine go ?_
      have : l = r := by rwa [List.take_of_length_le (by omega), List.take_of_length_le (by omega)] at ht
      simp [this]
  | succ d ih =>
    intro k hk ht
    obtain ⟨e, he⟩ : ∃ e, l[k]? = some e := ⟨l[k]'(by omega), List.getElem?_eq_getElem (by omega)⟩
    obtain ⟨e', he'⟩ : ∃ e', r[k]? = some e' := ⟨r[k]'(by omega), List.getElem?_eq_getElem (by omega)⟩
    have hp := (show (l.map Rec.tr).length = l.length ∧ (l.map Rec.tr)[k]? = some (Rec.tr e) ∧ (r.map Rec.tr)[k]? = some (Rec.tr e') ∧ IntKind.i64.wrap ((k : Int) + 1) = ((k + 1 : Nat) : Int) from
      ⟨by simp, by rw [List.getElem?_map, he]; rfl, by rw [List.getElem?_map, he']; rfl, by rw [wrapN (by omega) (by omega)]; rfl⟩)
    have hee : e = e' → l.take (k + 1) = r.take (k + 1) := fun h => by rw [List.take_add_one, List.take_add_one, ht, he, he', h]
    have hne : e ≠ e' → l ≠ r := fun hx h2 => by subst h2; rw [he] at he'; exact hx (Option.some.inj he')
    obtain ⟨kd, te, vo, ix, ⟨t, ⟨a, b, o, x, y, z⟩⟩⟩ := e
    obtain ⟨kd', te', vo', ix', ⟨t', ⟨a', b', o', x', y', z'⟩⟩⟩ := e'
    simp only [Rec.tr] at hp
    refine amR_succ ?_
    refine wk1 ?_
    refine guardP_mk (fun h => ?_) (fun h => ?_)
    · refine go1 ?_
      refine wk1 ?_
      refine guardP_mk (fun h => ?_) (fun h => ?_)
      · refine go1 ?_
        refine wk1 ?_
        refine am_retP rfl ?_ rfl
        refine go ?_
        have := hne (by intro hx; simp at h; simp_all)
        simp [this]
      · refine go1 ?_
        refine wk1 ?_
        refine amR_tidy [] [0, 1, 5] 1 rfl ?_
        refine go1 ?_
        exact ih (k + 1) (by omega) (hee (by simp at h; simp_all))
    · simp at h; omega
def mkR (c : Int) : Rec := ⟨c, c + 1, c + 1 + 1, c + 1 + 1 + 1, ⟨c + 1 + 1 + 1 + 1, ⟨c + 1 + 1 + 1 + 1 + 1, c + 1 + 1 + 1 + 1 + 1 + 1, c + 1 + 1 + 1 + 1 + 1 + 1 + 1, mtF (c + 1 + 1 + 1 + 1 + 1 + 1 + 1 + 1), mtF (c + 1 + 1 + 1 + 1 + 1 + 1 + 1 + 1 + 1), mtF (c + 1 + 1 + 1 + 1 + 1 + 1 + 1 + 1 + 1 + 1)⟩⟩⟩
def mkRs (n : Nat) (k : Int) : List Rec := (List.range n).map fun i => mkR (k + 11 * (i : Nat))
theorem mkRs_len (n : Nat) (k : Int) : (mkRs n k).length = n := by simp [mkRs]
theorem mkRs_get {n i : Nat} (k : Int) (h : i < n) : (mkRs n k)[i]? = some (mkR (k + 11 * (i : Nat))) := by simp [mkRs, h]
/-- A row marked so far. -/
def partR (l : List Rec) (k : Int) (i : Nat) : List (List Tree) := (mkRs i k).map Rec.tr ++ (l.drop i).map Rec.tr
theorem partR_zero {l : List Rec} {k : Int} : partR l k 0 = l.map Rec.tr := by simp [partR, mkRs]
theorem partR_all {l : List Rec} {k : Int} : partR l k l.length = (mkRs l.length k).map Rec.tr := by simp [partR]
theorem partR_len {l : List Rec} {k : Int} {i : Nat} (h : i ≤ l.length) : (partR l k i).length = l.length := by simp [partR, mkRs_len]; omega
theorem partR_set {l : List Rec} {k : Int} {i : Nat} (h : i < l.length) : (partR l k i).set i (mkR (k + 11 * (i : Nat))).tr = partR l k (i + 1) := by
  unfold partR
  have h1 : ((mkRs i k).map Rec.tr).length = i := by simp [mkRs_len]
  rw [List.set_append_right _ _ (by omega), h1, Nat.sub_self, List.drop_eq_getElem_cons h, List.map_cons, List.set_cons_zero]
  have h2 : mkRs (i + 1) k = mkRs i k ++ [mkR (k + 11 * (i : Nat))] := by simp [mkRs, List.range_succ]
  rw [h2, List.map_append, List.append_assoc]
  rfl
theorem partR_at {l : List Rec} {k : Int} {i : Nat} {e : Rec} (h : l[i]? = some e) : (partR l k i)[i]? = some e.tr := by
  unfold partR
  have h1 : ((mkRs i k).map Rec.tr).length = i := by simp [mkRs_len]
  rw [List.getElem?_append_right (by omega), h1, Nat.sub_self, List.getElem?_map, List.getElem?_drop, Nat.add_zero, h]
  rfl
set_option maxHeartbeats 32000000 in
theorem markRs_tc (l : List Rec) (k : Int) (h0 : 0 ≤ k) (hk : k + 11 * l.length ≤ 1099511627776) : TC Tryd.prog 25 [.c (.own 1 0 l.length), int k] [(1, .arr 100 11 (l.map Rec.tr))] 2 (int (k + 11 * l.length)) [(1, .arr 100 11 ((mkRs l.length k).map Rec.tr))] 2 := by
  refine tc_intro Tryd.func25 rfl 106 rfl (Nat.le_of_ble_eq_true rfl) (by decide) [4] rfl dom1 ?_
  intro w0 E0
  have kOk := k100
  refine wk ?_
  refine am_tidy [(1, 1)] [0, 1, 5] 2 rfl ?_
  refine go ?_
  refine am_loop (l.length + 1) ?_
  suffices key : ∀ (d i : Nat) (c : Int), i + d = l.length → c = k + 11 * (i : Nat) → amR Tryd.prog _ _ _ (d + 1) ⟨[(0, .c (.own 1 0 l.length)), (1, int c), (5, int (i : Nat))], [(1, .arr 100 11 (partR l k i))], 2⟩ from by
    have := key l.length 0 k (by simp) (by simp)
    rw [partR_zero] at this
    exact this
  intro d
  induction d with
  | zero =>
    intro i c hi hc
    refine amR_succ ?_
    refine wk ?_
    refine guardP_mk (fun h => ?_) (fun h => ?_)
    · simp at h; omega
    · refine go ?_
      refine wk ?_
      have hi' : i = l.length := hi
      subst hi'
      rw [partR_all]
      subst hc
      refine am_retB [(1, 1)] rfl ?_ ?_ rfl <;> first | refine go ?_ | rfl
  | succ d ih =>
    intro i c hi hc
    obtain ⟨e, he⟩ : ∃ e, l[i]? = some e := ⟨l[i]'(by omega), List.getElem?_eq_getElem (by omega)⟩
    have hat := partR_at (k := k) he
    have hset := partR_set (k := k) (show i < l.length by omega)
    rw [← hc] at hset
    have hlen := partR_len (k := k) (show i ≤ l.length by omega)
    have hp := (show (partR l k i)[i]? = some e.tr ∧ (partR l k i).set i (mkR c).tr = partR l k (i + 1) ∧ (∀ r : List Tree, ((partR l k i).set i r)[i]? = some r) ∧ (∀ r s : List Tree, ((partR l k i).set i r).set i s = (partR l k i).set i s) ∧
        IntKind.i64.wrap ((i : Int) + 1) = ((i + 1 : Nat) : Int) ∧ (i < l.length) = True ∧ IntKind.i64.wrap (c + 1) = c + 1 ∧ IntKind.i64.wrap (c + 1 + 1) = c + 1 + 1 ∧ IntKind.i64.wrap (c + 1 + 1 + 1) = c + 1 + 1 + 1 ∧ IntKind.i64.wrap (c + 1 + 1 + 1 + 1) = c + 1 + 1 + 1 + 1 ∧ IntKind.i64.wrap (c + 1 + 1 + 1 + 1 + 1) = c + 1 + 1 + 1 + 1 + 1 ∧ IntKind.i64.wrap (c + 1 + 1 + 1 + 1 + 1 + 1) = c + 1 + 1 + 1 + 1 + 1 + 1 ∧ IntKind.i64.wrap (c + 1 + 1 + 1 + 1 + 1 + 1 + 1) = c + 1 + 1 + 1 + 1 + 1 + 1 + 1 ∧ IntKind.i64.wrap (c + 1 + 1 + 1 + 1 + 1 + 1 + 1 + 1) = c + 1 + 1 + 1 + 1 + 1 + 1 + 1 + 1 ∧ IntKind.i64.wrap (c + 1 + 1 + 1 + 1 + 1 + 1 + 1 + 1 + 1) = c + 1 + 1 + 1 + 1 + 1 + 1 + 1 + 1 + 1 ∧ IntKind.i64.wrap (c + 1 + 1 + 1 + 1 + 1 + 1 + 1 + 1 + 1 + 1) = c + 1 + 1 + 1 + 1 + 1 + 1 + 1 + 1 + 1 + 1 ∧ IntKind.i64.wrap (c + 1 + 1 + 1 + 1 + 1 + 1 + 1 + 1 + 1 + 1 + 1) = c + 1 + 1 + 1 + 1 + 1 + 1 + 1 + 1 + 1 + 1 + 1 ∧ (c + 1 + 1 + 1 + 1 + 1 + 1 + 1 + 1 ≤ 1152921504606846976) = True ∧ (c + 1 + 1 + 1 + 1 + 1 + 1 + 1 + 1 + 1 ≤ 1152921504606846976) = True ∧ (c + 1 + 1 + 1 + 1 + 1 + 1 + 1 + 1 + 1 + 1 ≤ 1152921504606846976) = True from
      ⟨hat, hset, fun r => by rw [List.getElem?_set_self (by omega)], fun r s => by rw [List.set_set], by rw [wrapN (by omega) (by omega)]; rfl, eq_true (by omega), wrapN (by omega) (by omega), wrapN (by omega) (by omega), wrapN (by omega) (by omega), wrapN (by omega) (by omega), wrapN (by omega) (by omega), wrapN (by omega) (by omega), wrapN (by omega) (by omega), wrapN (by omega) (by omega), wrapN (by omega) (by omega), wrapN (by omega) (by omega), wrapN (by omega) (by omega), eq_true (by omega), eq_true (by omega), eq_true (by omega)⟩)
    clear hat hset hlen
    obtain ⟨kd, te, vo, ix, ⟨t, ⟨a, b, o, x, y, z⟩⟩⟩ := e
    simp only [Rec.tr, mkR] at hp
    refine amR_succ ?_
    refine wk1 ?_
    refine guardP_mk (fun h => ?_) (fun h => ?_)
    · refine go1 ?_
      refine wk1 ?_
      refine amR_tidy [(1, 1)] [0, 1, 5] 2 rfl ?_
      refine go1 ?_
      exact ih (i + 1) _ (by omega) (by omega)
    · simp at h; omega
set_option maxHeartbeats 8000000 in
theorem toRecs_tc (l : List Rec) (hl : l.length ≤ 1048576) : TC Tryd.prog 22 [ro 11 (l.map Rec.tr)] [] 1 (.c (.own 1 0 l.length)) [(1, .arr 100 11 (l.map Rec.tr))] 2 := by
  refine tc_intro Tryd.func22 rfl 23 rfl (Nat.le_of_ble_eq_true rfl) (by decide) [2] rfl (by intro id x h; cases h) ?_
  intro w0 E0
  have kOk := k100
  have hp : (l.map Rec.tr).length = l.length := by simp
  refine wk1 ?_
  refine am_rs tabOk kOk rfl fun K Q1 hK => ?_
  refine go1 ?_
  refine ⟨⟨by omega, by unfold maxLen; omega⟩, ?_⟩
  refine hK _ ?_
  clear hK K Q1
  refine wk1 ?_
  refine am_tidy [(1, 1)] [0, 3, 4] 2 rfl ?_
  refine go1 ?_
  clear hp
  refine am_loop (l.length + 1) ?_
  suffices key : ∀ (d k : Nat), k + d = l.length → amR Tryd.prog _ _ _ (d + 1) ⟨[(0, ro 11 (l.map Rec.tr)), (3, .c (.own 1 0 l.length)), (4, int (k : Nat))], [(1, .arr 100 11 (half Rec.tr [Tree.v (Value.int IntKind.i64 0), Tree.v (Value.int IntKind.i64 0), Tree.v (Value.int IntKind.i64 0), Tree.v (Value.int IntKind.i64 0), Tree.v (Value.int IntKind.i64 0), Tree.v (Value.int IntKind.i64 0), Tree.v (Value.int IntKind.i64 0), Tree.v (Value.int IntKind.i64 0), Tree.v (Value.string { data := #[] }), Tree.v (Value.string { data := #[] }), Tree.v (Value.string { data := #[] })] l k))], 2⟩ from by
    have := key l.length 0 (by simp)
    rw [half_zero] at this
    exact this
  intro d
  induction d with
  | zero =>
    intro k hk
    have hp : (l.map Rec.tr).length = l.length := by simp
    refine amR_succ ?_
    refine wk1 ?_
    refine guardP_mk (fun h => ?_) (fun h => ?_)
    · simp at h; omega
    · refine go1 ?_
      refine wk1 ?_
      have hk' : k = l.length := hk
      subst hk'
      rw [half_all]
      refine am_retB [(1, 1)] rfl ?_ ?_ rfl <;> first | refine go ?_ | rfl
  | succ d ih =>
    intro k hk
    obtain ⟨e, he⟩ : ∃ e, l[k]? = some e := ⟨l[k]'(by omega), List.getElem?_eq_getElem (by omega)⟩
    have hp := (show (l.map Rec.tr).length = l.length ∧ (l.map Rec.tr)[k]? = some (Rec.tr e) ∧ (half Rec.tr [Tree.v (Value.int IntKind.i64 0), Tree.v (Value.int IntKind.i64 0), Tree.v (Value.int IntKind.i64 0), Tree.v (Value.int IntKind.i64 0), Tree.v (Value.int IntKind.i64 0), Tree.v (Value.int IntKind.i64 0), Tree.v (Value.int IntKind.i64 0), Tree.v (Value.int IntKind.i64 0), Tree.v (Value.string { data := #[] }), Tree.v (Value.string { data := #[] }), Tree.v (Value.string { data := #[] })] l k)[k]? = some [Tree.v (Value.int IntKind.i64 0), Tree.v (Value.int IntKind.i64 0), Tree.v (Value.int IntKind.i64 0), Tree.v (Value.int IntKind.i64 0), Tree.v (Value.int IntKind.i64 0), Tree.v (Value.int IntKind.i64 0), Tree.v (Value.int IntKind.i64 0), Tree.v (Value.int IntKind.i64 0), Tree.v (Value.string { data := #[] }), Tree.v (Value.string { data := #[] }), Tree.v (Value.string { data := #[] })] ∧ IntKind.i64.wrap ((k : Int) + 1) = ((k + 1 : Nat) : Int) ∧ (k < l.length) = True ∧ (half Rec.tr [Tree.v (Value.int IntKind.i64 0), Tree.v (Value.int IntKind.i64 0), Tree.v (Value.int IntKind.i64 0), Tree.v (Value.int IntKind.i64 0), Tree.v (Value.int IntKind.i64 0), Tree.v (Value.int IntKind.i64 0), Tree.v (Value.int IntKind.i64 0), Tree.v (Value.int IntKind.i64 0), Tree.v (Value.string { data := #[] }), Tree.v (Value.string { data := #[] }), Tree.v (Value.string { data := #[] })] l k).set k (Rec.tr e) = half Rec.tr [Tree.v (Value.int IntKind.i64 0), Tree.v (Value.int IntKind.i64 0), Tree.v (Value.int IntKind.i64 0), Tree.v (Value.int IntKind.i64 0), Tree.v (Value.int IntKind.i64 0), Tree.v (Value.int IntKind.i64 0), Tree.v (Value.int IntKind.i64 0), Tree.v (Value.int IntKind.i64 0), Tree.v (Value.string { data := #[] }), Tree.v (Value.string { data := #[] }), Tree.v (Value.string { data := #[] })] l (k + 1) from
      ⟨by simp, by rw [List.getElem?_map, he]; rfl, half_at (by omega), by rw [wrapN (by omega) (by omega)]; rfl, eq_true (by omega), half_set he⟩)
    obtain ⟨kd, te, vo, ix, ⟨t, ⟨a, b, o, x, y, z⟩⟩⟩ := e
    simp only [Rec.tr] at hp
    refine amR_succ ?_
    refine wk1 ?_
    refine guardP_mk (fun h => ?_) (fun h => ?_)
    · refine go1 ?_
      refine wk1 ?_
      refine amR_tidy [(1, 1)] [0, 3, 4] 2 rfl ?_
      refine go1 ?_
      exact ih (k + 1) (by omega)
    · simp at h; omega
def szRGo : List Rec → Int → Int
  | [], s => s
  | e :: l, s => if szR e s < 0 then -1 else szRGo l (szR e s)
def szRsF (l : List Rec) (left : Int) : Int := if IntKind.i64.wrap (left - l.length) < 0 then -1 else szRGo l (IntKind.i64.wrap (left - l.length))
theorem szRGo_drop {l : List Rec} {k : Nat} {e : Rec} (h : l[k]? = some e) (s : Int) : szRGo (l.drop k) s = if szR e s < 0 then -1 else szRGo (l.drop (k + 1)) (szR e s) := by
  have hk := (List.getElem?_eq_some_iff.1 h).1
  rw [List.drop_eq_getElem_cons hk]
  have : l[k] = e := by rw [List.getElem?_eq_getElem hk] at h; exact Option.some.inj h
  simp only [szRGo, this]
set_option maxHeartbeats 8000000 in
theorem szRs_tc (l : List Rec) (left : Int) (hl : l.length ≤ maxLen) : TC Tryd.prog 20 [ro 11 (l.map Rec.tr), int left] [] 1 (int (szRsF l left)) [] 1 := by
  refine tc_intro Tryd.func20 rfl 27 rfl (Nat.le_of_ble_eq_true rfl) (by decide) [4] rfl (by intro id x h; cases h) ?_
  intro w0 E0
  have kOk := k100
  unfold maxLen at hl
  have hp : (l.map Rec.tr).length = l.length := by simp
  refine wk1 ?_
  refine guardP_mk (fun h => ?_) (fun h => ?_)
  · refine go1 ?_
    refine wk1 ?_
    refine am_retP rfl ?_ rfl
    refine go ?_
    simp only [decide_eq_true_eq] at h
    simp only [szRsF, if_pos h]
  simp only [Bool.not_true, decide_eq_false_iff_not] at h
  have hs : szRsF l left = szRGo l (IntKind.i64.wrap (left - l.length)) := by simp only [szRsF, if_neg h]
  rw [hs]
  refine go1 ?_
  refine wk1 ?_
  refine am_tidy [] [0, 1, 5] 1 rfl ?_
  refine go1 ?_
  clear hp
  refine am_loop (l.length + 1) ?_
  suffices key : ∀ (d k : Nat) (s : Int), k + d = l.length → szRGo (l.drop k) s = szRGo l (IntKind.i64.wrap (left - l.length)) → amR Tryd.prog _ _ _ (d + 1) ⟨[(0, ro 11 (l.map Rec.tr)), (1, int s), (5, int (k : Nat))], [], 1⟩ from key l.length 0 _ (by simp) rfl
  intro d
  induction d with
  | zero =>
    intro k s hk hf
    have hp : (l.map Rec.tr).length = l.length := by simp
    rw [List.drop_eq_nil_of_le (by omega)] at hf
    refine amR_succ ?_
    repeat' (fail_if_success (with_reducible apply amR_id)); first
      | (refine guardP_mk (fun h => ?_) (fun h => ?_) <;> (refine go1 ?_; try simp only [decide_eq_true_eq, decide_eq_false_iff_not, Bool.not_true, Bool.not_false, Bool.not_eq_true', Bool.not_eq_false', beq_iff_eq, bne_iff_ne, beq_eq_false_iff_ne, bne_eq_false_iff_eq, ne_eq, Bool.false_eq_true, reduceCtorEq] at h))
      | (refine hK _ ?_; clear hK K Q1)
      | (refine ⟨by first | omega | (simp only [List.length_map, List.length_append, List.length_cons, List.length_nil, List.length_replicate, List.length_drop, List.length_take]; omega), by unfold maxLen; first | omega | (simp only [List.length_map, List.length_append, List.length_cons, List.length_nil, List.length_replicate, List.length_drop, List.length_take]; omega), ?_⟩)
      | (refine hK _ _ rfl ?_; clear hK K; try refine go1 ?_)
      | (refine am_retP rfl ?_ rfl; first | refine go ?_ | rfl)
      | (refine am_retC [] rfl ?_ rfl rfl; first | refine go ?_ | rfl)
      | (refine wkq ?_)
      | (refine am_rs tabOk kOk rfl fun K Q1 hK => ?_; refine go1 ?_)
      | (refine am_reg tabOk kOk rfl fun K Q1 hK => ?_; refine go1 ?_)
      | (refine am_ds mixed tabOk kOk rfl rfl fun K hK => ?_; refine go1 ?_)
      | (refine am_dreg mixed tabOk kOk rfl rfl fun K hK => ?_; refine go1 ?_)
    all_goals first | (exfalso; omega) | (rw [← hf]; rfl)
  | succ d ih =>
    intro k s hk hf
    obtain ⟨e, he⟩ : ∃ e, l[k]? = some e := ⟨l[k]'(by omega), List.getElem?_eq_getElem (by omega)⟩
    rw [szRGo_drop he] at hf
    have hp := (show (l.map Rec.tr).length = l.length ∧ (l.map Rec.tr)[k]? = some e.tr ∧ IntKind.i64.wrap ((k : Int) + 1) = ((k + 1 : Nat) : Int) from ⟨by simp, by rw [List.getElem?_map, he]; rfl, by rw [wrapN (by omega) (by omega)]; rfl⟩)
    obtain ⟨kd, te, vo, ix, ⟨t, ⟨a, b, o, x, y, z⟩⟩⟩ := e
    simp only [Rec.tr] at hp
    refine amR_succ ?_
    repeat' (fail_if_success (with_reducible apply amR_id)); first
      | (refine guardP_mk (fun h => ?_) (fun h => ?_) <;> (refine go1 ?_; try simp only [decide_eq_true_eq, decide_eq_false_iff_not, Bool.not_true, Bool.not_false, Bool.not_eq_true', Bool.not_eq_false', beq_iff_eq, bne_iff_ne, beq_eq_false_iff_ne, bne_eq_false_iff_eq, ne_eq, Bool.false_eq_true, reduceCtorEq] at h))
      | (refine hK _ ?_; clear hK K Q1)
      | (refine ⟨by first | omega | (simp only [List.length_map, List.length_append, List.length_cons, List.length_nil, List.length_replicate, List.length_drop, List.length_take]; omega), by unfold maxLen; first | omega | (simp only [List.length_map, List.length_append, List.length_cons, List.length_nil, List.length_replicate, List.length_drop, List.length_take]; omega), ?_⟩)
      | (refine hK _ _ rfl ?_; clear hK K; try refine go1 ?_)
      | (refine am_retP rfl ?_ rfl; first | refine go ?_ | rfl)
      | (refine am_retC [] rfl ?_ rfl rfl; first | refine go ?_ | rfl)
      | (refine wkq ?_)
      | (refine am_rs tabOk kOk rfl fun K Q1 hK => ?_; refine go1 ?_)
      | (refine am_reg tabOk kOk rfl fun K Q1 hK => ?_; refine go1 ?_)
      | (refine am_ds mixed tabOk kOk rfl rfl fun K hK => ?_; refine go1 ?_)
      | (refine am_dreg mixed tabOk kOk rfl rfl fun K hK => ?_; refine go1 ?_)
    all_goals try (refine amR_tidy [] [0, 1, 5] 1 rfl ?_; refine go1 ?_; refine ih (k + 1) _ ?_ ?_)
    all_goals first | omega | (clear ih hp; simp only [TV.c.injEq, CV.t.injEq, Tree.v.injEq, Value.int.injEq, true_and]; rw [← hf]; skip; grind) | (clear ih hp; skip; grind) | (clear ih hp)
end Go.Proofs.YtaolgdpkcbfocaaDoorA
