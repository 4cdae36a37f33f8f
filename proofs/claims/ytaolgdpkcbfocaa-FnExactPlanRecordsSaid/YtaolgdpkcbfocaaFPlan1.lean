/- Records: rows of them marked, read again, compared. -/
import Derived.Test.YtaolgdpkcbfocaaFStable3
namespace Go.Proofs.YtaolgdpkcbfocaaA
open Go.Proofs
set_option autoImplicit false
set_option linter.unusedVariables false
set_option linter.unusedSimpArgs false
set_option maxRecDepth 4000
structure Rec where
  (kd te vo ix : Int)
  e : Ent
deriving instance DecidableEq for Rec
def Rec.tr (r : Rec) : List Tree := [.v (.int .i64 r.kd), .v (.int .i64 r.te), .v (.int .i64 r.vo), .v (.int .i64 r.ix), .v (.int .i64 r.e.term), .v (.int .i64 r.e.m.cl), .v (.int .i64 r.e.m.sq), .v (.int .i64 r.e.m.op), .v (.string r.e.m.k), .v (.string r.e.m.v), .v (.string r.e.m.o)]
def Rec.cv (r : Rec) : List CV := ci r.kd :: ci r.te :: ci r.vo :: ci r.ix :: ci r.e.term :: r.e.m.cv
def unRec : List CV → Option Rec
  | [.t (.v (.int .i64 kd)), .t (.v (.int .i64 te)), .t (.v (.int .i64 vo)), .t (.v (.int .i64 ix)), .t (.v (.int .i64 k)), .t (.v (.int .i64 a)), .t (.v (.int .i64 b)), .t (.v (.int .i64 o)), .t (.v (.string x)), .t (.v (.string y)), .t (.v (.string z))] => some ⟨kd, te, vo, ix, ⟨k, ⟨a, b, o, x, y, z⟩⟩⟩
  | _ => none
theorem unRec_ok {xs : List CV} {c : Rec} (h : unRec xs = some c) : xs = c.cv := by
  unfold unRec at h
  split at h
  · cases h; rfl
  · cases h
def unRecT : List Tree → Option Rec
  | [.v (.int .i64 kd), .v (.int .i64 te), .v (.int .i64 vo), .v (.int .i64 ix), .v (.int .i64 k), .v (.int .i64 a), .v (.int .i64 b), .v (.int .i64 o), .v (.string x), .v (.string y), .v (.string z)] => some ⟨kd, te, vo, ix, ⟨k, ⟨a, b, o, x, y, z⟩⟩⟩
  | _ => none
theorem unRecT_ok {xs : List Tree} {c : Rec} (h : unRecT xs = some c) : xs = c.tr := by
  unfold unRecT at h
  split at h
  · cases h; rfl
  · cases h
def unRecs : List (List Tree) → Option (List Rec)
  | [] => some []
  | x :: l => match unRecT x, unRecs l with
    | some e, some es => some (e :: es)
    | _, _ => none
@[go_sem] theorem unRecs_map (l : List Rec) : unRecs (l.map Rec.tr) = some l := by
  induction l with
  | nil => rfl
  | cons e l ih => simp only [List.map_cons, unRecs, ih]; rfl
theorem unRecs_ok : ∀ {xs : List (List Tree)} {l : List Rec}, unRecs xs = some l → xs = l.map Rec.tr
  | [], l, h => by cases h; rfl
  | x :: xs, l, h => by
    unfold unRecs at h
    split at h
    · rename_i e es he hes
      cases h
      rw [unRecT_ok he, unRecs_ok hes]
      rfl
    · cases h
attribute [go_sem] unRec Rec.cv
set_option maxHeartbeats 8000000 in
theorem eqRec_tc (c d : Rec) : TC Try.prog 76 [.agg c.cv, .agg d.cv] [] 1 (bool (decide (c = d))) [] 1 := by
  refine tc_intro Try.func76 rfl 31 rfl (Nat.le_of_ble_eq_true rfl) (by decide) [4] rfl (by intro id x h; cases h) ?_
  intro w0 E0
  have kOk := k17
  obtain ⟨kd, te, vo, ix, ⟨k, ⟨a, q, o, x, y, z⟩⟩⟩ := c
  obtain ⟨kd', te', vo', ix', ⟨k', ⟨a', q', o', x', y', z'⟩⟩⟩ := d
  simp only [Rec.cv, Cm.cv]
  repeat' (fail_if_success (with_reducible apply amR_id)); first
    | (refine guardP_mk (fun h => ?_) (fun h => ?_) <;> (refine go ?_; try simp only [decide_eq_true_eq, decide_eq_false_iff_not, Bool.not_true, Bool.not_false, Bool.not_eq_true', Bool.not_eq_false', beq_iff_eq, bne_iff_ne, beq_eq_false_iff_ne, bne_eq_false_iff_eq, ne_eq, Bool.false_eq_true, reduceCtorEq] at h))
    | (refine hK _ ?_; clear hK K Q1)
    | (refine ⟨by first | omega | (simp only [List.length_map, List.length_append, List.length_cons, List.length_nil, List.length_replicate, List.length_drop, List.length_take]; omega), by unfold maxLen; first | omega | (simp only [List.length_map, List.length_append, List.length_cons, List.length_nil, List.length_replicate, List.length_drop, List.length_take]; omega), ?_⟩)
    | (refine hK _ _ rfl ?_; clear hK K; try refine go ?_)
    | (refine am_retP rfl ?_ rfl; first | refine go ?_ | rfl)
    | (refine am_retC [] rfl ?_ rfl rfl; first | refine go ?_ | rfl)
    | (refine wkp ?_)
    | (refine am_rs tabOk kOk rfl fun K Q1 hK => ?_; refine go ?_)
    | (refine am_ds mixed tabOk kOk rfl rfl fun K hK => ?_; refine go ?_)
    | (refine am_dreg mixed tabOk kOk rfl rfl fun K hK => ?_; refine go ?_)
  all_goals simp_all
def kn40_0_2 (c : Rec) (d : Rec) : Option TV := some (bool (decide (c = d)))
def kn40_0_1 (r1 : List CV) (c : Rec) : Option TV := (unRec r1).bind (kn40_0_2 c)
def kn40_0_0 (r0 : List CV) (r1 : List CV) : Option TV := (unRec r0).bind (kn40_0_1 r1)
def kn40_0 : List TV → Option TV
  | [.agg r0, .agg r1] => kn40_0_0 r0 r1
  | _ => none
def kn40_call (f : FuncId) (args : List TV) : Option TV := if f = 76 then orO (kn40_0 args) (kn17.call f args) else kn17.call f args
def kn40 : Kn := { call := kn40_call, eqs := eqTys, callB := kn17.callB }
attribute [go_sem] kn40_0_0 kn40_0_1 kn40_0_2 kn40_0 kn40_call kn40
theorem kn40_ok : ∀ f args res, kn40_call f args = some res → TC Try.prog f args [] 1 res [] 1 := by
  intro f args res h
  unfold kn40_call at h
  split at h
  · rename_i e; subst e
    have hh := orO_elim h
    clear h
    rcases hh with h | h
    rotate_left
    · exact k17.call _ _ _ h
    unfold kn40_0 at h
    split at h
    · rename_i r0 r1; unfold kn40_0_0 at h
      obtain ⟨c, e0, h⟩ := Option.bind_eq_some_iff.1 h
      unfold kn40_0_1 at h
      obtain ⟨d, e1, h⟩ := Option.bind_eq_some_iff.1 h
      unfold kn40_0_2 at h
      cases h; rw [unRec_ok e0, unRec_ok e1]; exact eqRec_tc c d
    · cases h
  · exact k17.call f args res h
theorem k40 : KnOk Try.prog kn40 := ⟨kn40_ok, eqTysOk, k17.callB⟩
set_option maxHeartbeats 8000000 in
theorem eqRecs_tc (l r : List Rec) (hl : l.length ≤ 1048576) : TC Try.prog 46 [ro 11 (l.map Rec.tr), ro 11 (r.map Rec.tr)] [] 1 (bool (decide (l = r))) [] 1 := by
  refine tc_intro Try.func46 rfl 27 rfl (Nat.le_of_ble_eq_true rfl) (by decide) [4] rfl (by intro id x h; cases h) ?_
  intro w0 E0
  have kOk := k40
  have hp : (l.map Rec.tr).length = l.length ∧ (r.map Rec.tr).length = r.length := by simp
  refine wk1 ?_
  refine guardP_mk (fun h => ?_) (fun h => ?_)
  · refine go1 ?_
    refine wk1 ?_
    refine am_retP rfl ?_ rfl
    refine go ?_
    have : ¬ l = r := fun e => by subst e; simp at h
    simp [this]
  have hlr : l.length = r.length := by simp at h; omega
  refine go1 ?_
  refine wk1 ?_
  refine am_tidy [] [0, 1, 5] 1 rfl ?_
  refine go1 ?_
  clear hp
  refine am_loop (l.length + 1) ?_
  suffices key : ∀ (d k : Nat), k + d = l.length → l.take k = r.take k → amR Try.prog _ _ _ (d + 1) ⟨[(0, ro 11 (l.map Rec.tr)), (1, ro 11 (r.map Rec.tr)), (5, int (k : Nat))], [], 1⟩ from key l.length 0 (by simp) rfl
  intro d
  induction d with
  | zero =>
    intro k hk ht
    have hp : (l.map Rec.tr).length = l.length := by simp
    refine amR_succ ?_
    refine wk1 ?_
    refine guardP_mk (fun h => ?_) (fun h => ?_)
    · simp at h; omega
    · refine go1 ?_
      refine wk1 ?_
      refine am_retP rfl ?_ rfl
      refine go ?_
      have : l = r := by rwa [List.take_of_length_le (by omega), List.take_of_length_le (by omega)] at ht
      simp [this]
  | succ d ih =>
    intro k hk ht
    obtain ⟨e, he⟩ : ∃ e, l[k]? = some e := ⟨l[k]'(by omega), List.getElem?_eq_getElem (by omega)⟩
    obtain ⟨e', he'⟩ : ∃ e', r[k]? = some e' := ⟨r[k]'(by omega), List.getElem?_eq_getElem (by omega)⟩
    have hp := (show (l.map Rec.tr).length = l.length ∧ (l.map Rec.tr)[k]? = some (Rec.tr e) ∧ (r.map Rec.tr)[k]? = some (Rec.tr e') ∧ IntKind.i64.wrap ((k : Int) + 1) = ((k + 1 : Nat) : Int) from
      ⟨by simp, by rw [List.getElem?_map, he]; rfl, by rw [List.getElem?_map, he']; rfl, by rw [wrapN (by omega) (by omega)]; rfl⟩)
    have hee : e = e' → l.take (k + 1) = r.take (k + 1) := fun h => by rw [List.take_add_one, List.take_add_one, ht, he, he', h]
    have hne : e ≠ e' → l ≠ r := fun hx h2 => by subst h2; rw [he] at he'; exact hx (Option.some.inj he')
    obtain ⟨kd, te, vo, ix, ⟨t, ⟨a, b, o, x, y, z⟩⟩⟩ := e
    obtain ⟨kd', te', vo', ix', ⟨t', ⟨a', b', o', x', y', z'⟩⟩⟩ := e'
    simp only [Rec.tr] at hp
    refine amR_succ ?_
    refine wk1 ?_
    refine guardP_mk (fun h => ?_) (fun h => ?_)
    · refine go1 ?_
      refine wk1 ?_
      refine guardP_mk (fun h => ?_) (fun h => ?_)
      · refine go1 ?_
        refine wk1 ?_
        refine am_retP rfl ?_ rfl
        refine go ?_
        have := hne (by intro hx; simp at h; simp_all)
        simp [this]
      · refine go1 ?_
        refine wk1 ?_
        refine amR_tidy [] [0, 1, 5] 1 rfl ?_
        refine go1 ?_
        exact ih (k + 1) (by omega) (hee (by simp at h; simp_all))
    · simp at h; omega
def mkR (c : Int) : Rec := ⟨c, c + 1, c + 1 + 1, c + 1 + 1 + 1, ⟨c + 1 + 1 + 1 + 1, ⟨c + 1 + 1 + 1 + 1 + 1, c + 1 + 1 + 1 + 1 + 1 + 1, c + 1 + 1 + 1 + 1 + 1 + 1 + 1, mtF (c + 1 + 1 + 1 + 1 + 1 + 1 + 1 + 1), mtF (c + 1 + 1 + 1 + 1 + 1 + 1 + 1 + 1 + 1), mtF (c + 1 + 1 + 1 + 1 + 1 + 1 + 1 + 1 + 1 + 1)⟩⟩⟩
def mkRs (n : Nat) (k : Int) : List Rec := (List.range n).map fun i => mkR (k + 11 * (i : Nat))
theorem mkRs_len (n : Nat) (k : Int) : (mkRs n k).length = n := by simp [mkRs]
theorem mkRs_get {n i : Nat} (k : Int) (h : i < n) : (mkRs n k)[i]? = some (mkR (k + 11 * (i : Nat))) := by simp [mkRs, h]
/-- A row marked so far. -/
def partR (l : List Rec) (k : Int) (i : Nat) : List (List Tree) := (mkRs i k).map Rec.tr ++ (l.drop i).map Rec.tr
theorem partR_zero {l : List Rec} {k : Int} : partR l k 0 = l.map Rec.tr := by simp [partR, mkRs]
theorem partR_all {l : List Rec} {k : Int} : partR l k l.length = (mkRs l.length k).map Rec.tr := by simp [partR]
theorem partR_len {l : List Rec} {k : Int} {i : Nat} (h : i ≤ l.length) : (partR l k i).length = l.length := by simp [partR, mkRs_len]; omega
theorem partR_set {l : List Rec} {k : Int} {i : Nat} (h : i < l.length) : (partR l k i).set i (mkR (k + 11 * (i : Nat))).tr = partR l k (i + 1) := by
  unfold partR
  have h1 : ((mkRs i k).map Rec.tr).length = i := by simp [mkRs_len]
  rw [List.set_append_right _ _ (by omega), h1, Nat.sub_self, List.drop_eq_getElem_cons h, List.map_cons, List.set_cons_zero]
  have h2 : mkRs (i + 1) k = mkRs i k ++ [mkR (k + 11 * (i : Nat))] := by simp [mkRs, List.range_succ]
  rw [h2, List.map_append, List.append_assoc]
  rfl
theorem partR_at {l : List Rec} {k : Int} {i : Nat} {e : Rec} (h : l[i]? = some e) : (partR l k i)[i]? = some e.tr := by
  unfold partR
  have h1 : ((mkRs i k).map Rec.tr).length = i := by simp [mkRs_len]
  rw [List.getElem?_append_right (by omega), h1, Nat.sub_self, List.getElem?_map, List.getElem?_drop, Nat.add_zero, h]
  rfl
set_option maxHeartbeats 32000000 in
theorem markRs_tc (l : List Rec) (k : Int) (h0 : 0 ≤ k) (hk : k + 11 * l.length ≤ 1099511627776) : TC Try.prog 49 [.c (.own 1 0 l.length), int k] [(1, .arr 89 11 (l.map Rec.tr))] 2 (int (k + 11 * l.length)) [(1, .arr 89 11 ((mkRs l.length k).map Rec.tr))] 2 := by
  refine tc_intro Try.func49 rfl 106 rfl (Nat.le_of_ble_eq_true rfl) (by decide) [4] rfl dom1 ?_
  intro w0 E0
  have kOk := k40
  refine wk ?_
  refine am_tidy [(1, 1)] [0, 1, 5] 2 rfl ?_
  refine go ?_
  refine am_loop (l.length + 1) ?_
  suffices key : ∀ (d i : Nat) (c : Int), i + d = l.length → c = k + 11 * (i : Nat) → amR Try.prog _ _ _ (d + 1) ⟨[(0, .c (.own 1 0 l.length)), (1, int c), (5, int (i : Nat))], [(1, .arr 89 11 (partR l k i))], 2⟩ from by
    have := key l.length 0 k (by simp) (by simp)
    rw [partR_zero] at this
    exact this
  intro d
  induction d with
  | zero =>
    intro i c hi hc
    refine amR_succ ?_
    refine wk ?_
    refine guardP_mk (fun h => ?_) (fun h => ?_)
    · simp at h; omega
    · refine go ?_
      refine wk ?_
      have hi' : i = l.length := hi
      subst hi'
      rw [partR_all]
      subst hc
      refine am_retB [(1, 1)] rfl ?_ ?_ rfl <;> first | refine go ?_ | rfl
  | succ d ih =>
    intro i c hi hc
    obtain ⟨e, he⟩ : ∃ e, l[i]? = some e := ⟨l[i]'(by omega), List.getElem?_eq_getElem (by omega)⟩
    have hat := partR_at (k := k) he
    have hset := partR_set (k := k) (show i < l.length by omega)
    rw [← hc] at hset
    have hlen := partR_len (k := k) (show i ≤ l.length by omega)
    have hp := (show (partR l k i)[i]? = some e.tr ∧ (partR l k i).set i (mkR c).tr = partR l k (i + 1) ∧ (∀ r : List Tree, ((partR l k i).set i r)[i]? = some r) ∧ (∀ r s : List Tree, ((partR l k i).set i r).set i s = (partR l k i).set i s) ∧
        IntKind.i64.wrap ((i : Int) + 1) = ((i + 1 : Nat) : Int) ∧ (i < l.length) = True ∧ IntKind.i64.wrap (c + 1) = c + 1 ∧ IntKind.i64.wrap (c + 1 + 1) = c + 1 + 1 ∧ IntKind.i64.wrap (c + 1 + 1 + 1) = c + 1 + 1 + 1 ∧ IntKind.i64.wrap (c + 1 + 1 + 1 + 1) = c + 1 + 1 + 1 + 1 ∧ IntKind.i64.wrap (c + 1 + 1 + 1 + 1 + 1) = c + 1 + 1 + 1 + 1 + 1 ∧ IntKind.i64.wrap (c + 1 + 1 + 1 + 1 + 1 + 1) = c + 1 + 1 + 1 + 1 + 1 + 1 ∧ IntKind.i64.wrap (c + 1 + 1 + 1 + 1 + 1 + 1 + 1) = c + 1 + 1 + 1 + 1 + 1 + 1 + 1 ∧ IntKind.i64.wrap (c + 1 + 1 + 1 + 1 + 1 + 1 + 1 + 1) = c + 1 + 1 + 1 + 1 + 1 + 1 + 1 + 1 ∧ IntKind.i64.wrap (c + 1 + 1 + 1 + 1 + 1 + 1 + 1 + 1 + 1) = c + 1 + 1 + 1 + 1 + 1 + 1 + 1 + 1 + 1 ∧ IntKind.i64.wrap (c + 1 + 1 + 1 + 1 + 1 + 1 + 1 + 1 + 1 + 1) = c + 1 + 1 + 1 + 1 + 1 + 1 + 1 + 1 + 1 + 1 ∧ IntKind.i64.wrap (c + 1 + 1 + 1 + 1 + 1 + 1 + 1 + 1 + 1 + 1 + 1) = c + 1 + 1 + 1 + 1 + 1 + 1 + 1 + 1 + 1 + 1 + 1 ∧ (c + 1 + 1 + 1 + 1 + 1 + 1 + 1 + 1 ≤ 1152921504606846976) = True ∧ (c + 1 + 1 + 1 + 1 + 1 + 1 + 1 + 1 + 1 ≤ 1152921504606846976) = True ∧ (c + 1 + 1 + 1 + 1 + 1 + 1 + 1 + 1 + 1 + 1 ≤ 1152921504606846976) = True from
      ⟨hat, hset, fun r => by rw [List.getElem?_set_self (by omega)], fun r s => by rw [List.set_set], by rw [wrapN (by omega) (by omega)]; rfl, eq_true (by omega), wrapN (by omega) (by omega), wrapN (by omega) (by omega), wrapN (by omega) (by omega), wrapN (by omega) (by omega), wrapN (by omega) (by omega), wrapN (by omega) (by omega), wrapN (by omega) (by omega), wrapN (by omega) (by omega), wrapN (by omega) (by omega), wrapN (by omega) (by omega), wrapN (by omega) (by omega), eq_true (by omega), eq_true (by omega), eq_true (by omega)⟩)
    clear hat hset hlen
    obtain ⟨kd, te, vo, ix, ⟨t, ⟨a, b, o, x, y, z⟩⟩⟩ := e
    simp only [Rec.tr, mkR] at hp
    refine amR_succ ?_
    refine wk1 ?_
    refine guardP_mk (fun h => ?_) (fun h => ?_)
    · refine go1 ?_
      refine wk1 ?_
      refine amR_tidy [(1, 1)] [0, 1, 5] 2 rfl ?_
      refine go1 ?_
      exact ih (i + 1) _ (by omega) (by omega)
    · simp at h; omega
@[go_sem] theorem take_mkR {β : Type} (f : Rec → β) (n : Nat) (k : Int) : ((mkRs n k).map f).take n = (mkRs n k).map f := List.take_of_length_le (by simp [mkRs_len])
@[go_sem] theorem le_mkR {β : Type} (f : Rec → β) (n : Nat) (k : Int) : (n ≤ ((mkRs n k).map f).length) = True := by simp [mkRs_len]
@[go_sem] theorem mkR_self (n : Nat) (k : Int) : (mkRs n k = mkRs (mkRs n k).length k) = True := by simp [mkRs_len]
set_option maxHeartbeats 32000000 in
theorem heldRs_tc (n : Nat) (k : Int) (h0 : 0 ≤ k) (hk : k + 11 * (n : Nat) ≤ 1099511627776) : TC Try.prog 50 [ro 11 ((mkRs n k).map Rec.tr), int k] [] 1 (int (k + 11 * (n : Nat))) [] 1 := by
  refine tc_intro Try.func50 rfl 128 rfl (Nat.le_of_ble_eq_true rfl) (by decide) [4] rfl (by intro id x h; cases h) ?_
  intro w0 E0
  have kOk := k40
  refine wk ?_
  refine am_tidy [] [0, 1, 5] 1 rfl ?_
  refine go ?_
  refine am_loop (n + 1) ?_
  suffices key : ∀ (d i : Nat) (c : Int), i + d = n → c = k + 11 * (i : Nat) → amR Try.prog _ _ _ (d + 1) ⟨[(0, ro 11 ((mkRs n k).map Rec.tr)), (1, int c), (5, int (i : Nat))], [], 1⟩ from key n 0 k (by simp) (by simp)
  intro d
  induction d with
  | zero =>
    intro i c hi hc
    have hp : ((mkRs n k).map Rec.tr).length = n := by simp [mkRs_len]
    refine amR_succ ?_
    refine wk1 ?_
    refine guardP_mk (fun h => ?_) (fun h => ?_)
    · simp at h; omega
    · refine go1 ?_
      refine wk1 ?_
      have hi' : i = n := hi
      subst hi'
      subst hc
      refine am_retP rfl ?_ rfl
      first | refine go ?_ | rfl
  | succ d ih =>
    intro i c hi hc
    have hat : ((mkRs n k).map Rec.tr)[i]? = some (mkR c).tr := by rw [List.getElem?_map, mkRs_get k (by omega), hc]; rfl
    have hp := (show ((mkRs n k).map Rec.tr).length = n ∧ ((mkRs n k).map Rec.tr)[i]? = some (mkR c).tr ∧
        IntKind.i64.wrap ((i : Int) + 1) = ((i + 1 : Nat) : Int) ∧ (∀ x : Int, (x != x) = false) ∧ IntKind.i64.wrap (c + 1) = c + 1 ∧ IntKind.i64.wrap (c + 1 + 1) = c + 1 + 1 ∧ IntKind.i64.wrap (c + 1 + 1 + 1) = c + 1 + 1 + 1 ∧ IntKind.i64.wrap (c + 1 + 1 + 1 + 1) = c + 1 + 1 + 1 + 1 ∧ IntKind.i64.wrap (c + 1 + 1 + 1 + 1 + 1) = c + 1 + 1 + 1 + 1 + 1 ∧ IntKind.i64.wrap (c + 1 + 1 + 1 + 1 + 1 + 1) = c + 1 + 1 + 1 + 1 + 1 + 1 ∧ IntKind.i64.wrap (c + 1 + 1 + 1 + 1 + 1 + 1 + 1) = c + 1 + 1 + 1 + 1 + 1 + 1 + 1 ∧ IntKind.i64.wrap (c + 1 + 1 + 1 + 1 + 1 + 1 + 1 + 1) = c + 1 + 1 + 1 + 1 + 1 + 1 + 1 + 1 ∧ IntKind.i64.wrap (c + 1 + 1 + 1 + 1 + 1 + 1 + 1 + 1 + 1) = c + 1 + 1 + 1 + 1 + 1 + 1 + 1 + 1 + 1 ∧ IntKind.i64.wrap (c + 1 + 1 + 1 + 1 + 1 + 1 + 1 + 1 + 1 + 1) = c + 1 + 1 + 1 + 1 + 1 + 1 + 1 + 1 + 1 + 1 ∧ IntKind.i64.wrap (c + 1 + 1 + 1 + 1 + 1 + 1 + 1 + 1 + 1 + 1 + 1) = c + 1 + 1 + 1 + 1 + 1 + 1 + 1 + 1 + 1 + 1 + 1 ∧ (c + 1 + 1 + 1 + 1 + 1 + 1 + 1 + 1 ≤ 1152921504606846976) = True ∧ (c + 1 + 1 + 1 + 1 + 1 + 1 + 1 + 1 + 1 ≤ 1152921504606846976) = True ∧ (c + 1 + 1 + 1 + 1 + 1 + 1 + 1 + 1 + 1 + 1 ≤ 1152921504606846976) = True from
      ⟨by simp [mkRs_len], hat, by rw [wrapN (by omega) (by omega)]; rfl, fun x => by simp, wrapN (by omega) (by omega), wrapN (by omega) (by omega), wrapN (by omega) (by omega), wrapN (by omega) (by omega), wrapN (by omega) (by omega), wrapN (by omega) (by omega), wrapN (by omega) (by omega), wrapN (by omega) (by omega), wrapN (by omega) (by omega), wrapN (by omega) (by omega), wrapN (by omega) (by omega), eq_true (by omega), eq_true (by omega), eq_true (by omega)⟩)
    clear hat
    simp only [Rec.tr, mkR] at hp
    refine amR_succ ?_
    refine wk1 ?_
    refine guardP_mk (fun h => ?_) (fun h => ?_)
    · refine go1 ?_
      refine wk1 ?_
      refine amR_tidy [] [0, 1, 5] 1 rfl ?_
      refine go1 ?_
      exact ih (i + 1) _ (by omega) (by omega)
    · simp at h; omega
theorem markRs0_tc (k : Int) : TC Try.prog 49 [lit (.slice none 0 0), int k] [] 1 (int k) [] 1 := by
  refine tc_intro Try.func49 rfl 106 rfl (Nat.le_of_ble_eq_true rfl) (by decide) [4] rfl (by intro id x h; cases h) ?_
  intro w0 E0
  have kOk := k40
  refine wk ?_
  refine am_loop 1 (amR_succ ?_)
  repeat' (fail_if_success (with_reducible apply amR_id)); first
    | (refine guardP_mk (fun h => ?_) (fun h => ?_) <;> (refine go ?_; try simp only [decide_eq_true_eq, decide_eq_false_iff_not, Bool.not_true, Bool.not_false, Bool.not_eq_true', Bool.not_eq_false', beq_iff_eq, bne_iff_ne, beq_eq_false_iff_ne, bne_eq_false_iff_eq, ne_eq, Bool.false_eq_true, reduceCtorEq] at h))
    | (refine hK _ ?_; clear hK K Q1)
    | (refine ⟨by first | omega | (simp only [List.length_map, List.length_append, List.length_cons, List.length_nil, List.length_replicate, List.length_drop, List.length_take]; omega), by unfold maxLen; first | omega | (simp only [List.length_map, List.length_append, List.length_cons, List.length_nil, List.length_replicate, List.length_drop, List.length_take]; omega), ?_⟩)
    | (refine hK _ _ rfl ?_; clear hK K; try refine go ?_)
    | (refine am_retP rfl ?_ rfl; first | refine go ?_ | rfl)
    | (refine am_retC [] rfl ?_ rfl rfl; first | refine go ?_ | rfl)
    | (refine wkp ?_)
    | (refine am_rs tabOk kOk rfl fun K Q1 hK => ?_; refine go ?_)
    | (refine am_ds mixed tabOk kOk rfl rfl fun K hK => ?_; refine go ?_)
    | (refine am_dreg mixed tabOk kOk rfl rfl fun K hK => ?_; refine go ?_)
  all_goals first | rfl | (exfalso; omega)
theorem heldRs0_tc (k : Int) : TC Try.prog 50 [lit (.slice none 0 0), int k] [] 1 (int k) [] 1 := by
  refine tc_intro Try.func50 rfl 128 rfl (Nat.le_of_ble_eq_true rfl) (by decide) [4] rfl (by intro id x h; cases h) ?_
  intro w0 E0
  have kOk := k40
  refine wk ?_
  refine am_loop 1 (amR_succ ?_)
  repeat' (fail_if_success (with_reducible apply amR_id)); first
    | (refine guardP_mk (fun h => ?_) (fun h => ?_) <;> (refine go ?_; try simp only [decide_eq_true_eq, decide_eq_false_iff_not, Bool.not_true, Bool.not_false, Bool.not_eq_true', Bool.not_eq_false', beq_iff_eq, bne_iff_ne, beq_eq_false_iff_ne, bne_eq_false_iff_eq, ne_eq, Bool.false_eq_true, reduceCtorEq] at h))
    | (refine hK _ ?_; clear hK K Q1)
    | (refine ⟨by first | omega | (simp only [List.length_map, List.length_append, List.length_cons, List.length_nil, List.length_replicate, List.length_drop, List.length_take]; omega), by unfold maxLen; first | omega | (simp only [List.length_map, List.length_append, List.length_cons, List.length_nil, List.length_replicate, List.length_drop, List.length_take]; omega), ?_⟩)
    | (refine hK _ _ rfl ?_; clear hK K; try refine go ?_)
    | (refine am_retP rfl ?_ rfl; first | refine go ?_ | rfl)
    | (refine am_retC [] rfl ?_ rfl rfl; first | refine go ?_ | rfl)
    | (refine wkp ?_)
    | (refine am_rs tabOk kOk rfl fun K Q1 hK => ?_; refine go ?_)
    | (refine am_ds mixed tabOk kOk rfl rfl fun K hK => ?_; refine go ?_)
    | (refine am_dreg mixed tabOk kOk rfl rfl fun K hK => ?_; refine go ?_)
  all_goals first | rfl | (exfalso; omega)
theorem eqRs0_tc : TC Try.prog 46 [lit (.slice none 0 0), lit (.slice none 0 0)] [] 1 (bool true) [] 1 := by
  refine tc_intro Try.func46 rfl 27 rfl (Nat.le_of_ble_eq_true rfl) (by decide) [4] rfl (by intro id x h; cases h) ?_
  intro w0 E0
  have kOk := k40
  refine hd ?_
  repeat' (fail_if_success (with_reducible apply amR_id)); first
    | (refine guardP_mk (fun h => ?_) (fun h => ?_) <;> (refine go ?_; try simp only [decide_eq_true_eq, decide_eq_false_iff_not, Bool.not_true, Bool.not_false, Bool.not_eq_true', Bool.not_eq_false', beq_iff_eq, bne_iff_ne, beq_eq_false_iff_ne, bne_eq_false_iff_eq, ne_eq, Bool.false_eq_true, reduceCtorEq] at h))
    | (refine hK _ ?_; clear hK K Q1)
    | (refine ⟨by first | omega | (simp only [List.length_map, List.length_append, List.length_cons, List.length_nil, List.length_replicate, List.length_drop, List.length_take]; omega), by unfold maxLen; first | omega | (simp only [List.length_map, List.length_append, List.length_cons, List.length_nil, List.length_replicate, List.length_drop, List.length_take]; omega), ?_⟩)
    | (refine hK _ _ rfl ?_; clear hK K; try refine go ?_)
    | (refine am_retP rfl ?_ rfl; first | refine go ?_ | rfl)
    | (refine am_retC [] rfl ?_ rfl rfl; first | refine go ?_ | rfl)
    | (refine wkp ?_)
    | (refine am_rs tabOk kOk rfl fun K Q1 hK => ?_; refine go ?_)
    | (refine am_ds mixed tabOk kOk rfl rfl fun K hK => ?_; refine go ?_)
    | (refine am_dreg mixed tabOk kOk rfl rfl fun K hK => ?_; refine go ?_)
  all_goals first | rfl | (exfalso; omega) | (exact absurd trivial h) | skip
  all_goals refine am_loop 1 (amR_succ ?_)
  repeat' (fail_if_success (with_reducible apply amR_id)); first
    | (refine guardP_mk (fun h => ?_) (fun h => ?_) <;> (refine go ?_; try simp only [decide_eq_true_eq, decide_eq_false_iff_not, Bool.not_true, Bool.not_false, Bool.not_eq_true', Bool.not_eq_false', beq_iff_eq, bne_iff_ne, beq_eq_false_iff_ne, bne_eq_false_iff_eq, ne_eq, Bool.false_eq_true, reduceCtorEq] at h))
    | (refine hK _ ?_; clear hK K Q1)
    | (refine ⟨by first | omega | (simp only [List.length_map, List.length_append, List.length_cons, List.length_nil, List.length_replicate, List.length_drop, List.length_take]; omega), by unfold maxLen; first | omega | (simp only [List.length_map, List.length_append, List.length_cons, List.length_nil, List.length_replicate, List.length_drop, List.length_take]; omega), ?_⟩)
    | (refine hK _ _ rfl ?_; clear hK K; try refine go ?_)
    | (refine am_retP rfl ?_ rfl; first | refine go ?_ | rfl)
    | (refine am_retC [] rfl ?_ rfl rfl; first | refine go ?_ | rfl)
    | (refine wkp ?_)
    | (refine am_rs tabOk kOk rfl fun K Q1 hK => ?_; refine go ?_)
    | (refine am_ds mixed tabOk kOk rfl rfl fun K hK => ?_; refine go ?_)
    | (refine am_dreg mixed tabOk kOk rfl rfl fun K hK => ?_; refine go ?_)
  all_goals first | rfl | (exfalso; omega)
end Go.Proofs.YtaolgdpkcbfocaaA
