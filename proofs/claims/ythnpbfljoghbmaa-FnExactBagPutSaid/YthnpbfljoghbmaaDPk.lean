/- Packets: what came in, copies, comparisons. -/
import Derived.Test.YthnpbfljoghbmaaDRow
import Derived.Test.YthnpbfljoghbmaaAmFrz
namespace Go.Proofs.YthnpbfljoghbmaaA
open Go.Proofs
set_option autoImplicit false
set_option linter.unusedVariables false
set_option linter.unusedSimpArgs false
set_option maxRecDepth 4000
deriving instance DecidableEq for Pk
def Pk.cv (p : Pk) : List CV := [ci p.id, ci p.fr, ci p.to, .t (.sl 1 (p.bytes.map bTr))]
def Pk.nc (p : Pk) : List NC := [.t (.v (.int .i64 p.id)), .t (.v (.int .i64 p.fr)), .t (.v (.int .i64 p.to)), .row 5 1 (p.bytes.map bTr)]
def unPk : List CV → Option Pk
  | [.t (.v (.int .i64 a)), .t (.v (.int .i64 b)), .t (.v (.int .i64 c)), .t (.sl 1 x)] => (unBys x).map fun l => ⟨a, b, c, l⟩
  | _ => none
theorem unPk_ok {xs : List CV} {c : Pk} (h : unPk xs = some c) : xs = c.cv := by
  unfold unPk at h
  split at h
  · rename_i ys
    obtain ⟨l, h1, h2⟩ := Option.map_eq_some_iff.1 h
    subst h2
    rw [unBys_ok h1]
    rfl
  · cases h
def unPkT : List Tree → Option Pk
  | [.v (.int .i64 a), .v (.int .i64 b), .v (.int .i64 c), .sl 1 x] => (unBys x).map fun l => ⟨a, b, c, l⟩
  | _ => none
theorem unPkT_ok {xs : List Tree} {c : Pk} (h : unPkT xs = some c) : xs = c.tr := by
  unfold unPkT at h
  split at h
  · rename_i ys
    obtain ⟨l, h1, h2⟩ := Option.map_eq_some_iff.1 h
    subst h2
    rw [unBys_ok h1]
    rfl
  · cases h
def unPks : List (List Tree) → Option (List Pk)
  | [] => some []
  | x :: l => (unPkT x).bind fun p => (unPks l).map (p :: ·)
theorem unPks_ok : ∀ {xs : List (List Tree)} {l : List Pk}, unPks xs = some l → xs = l.map Pk.tr
  | [], l, h => by cases h; rfl
  | x :: xs, l, h => by
    unfold unPks at h
    obtain ⟨p, h1, h2⟩ := Option.bind_eq_some_iff.1 h
    obtain ⟨l', h3, rfl⟩ := Option.map_eq_some_iff.1 h2
    rw [unPkT_ok h1, unPks_ok h3]
    rfl
@[go_sem] theorem unPks_map (l : List Pk) : unPks (l.map Pk.tr) = some l := by
  induction l with
  | nil => rfl
  | cons p l ih =>
    have : unPkT p.tr = some p := by simp [unPkT, Pk.tr, unBys_map]
    simp only [List.map_cons, unPks, this, ih]
    rfl
def unNcT : List NC → Option Pk
  | [.t (.v (.int .i64 a)), .t (.v (.int .i64 b)), .t (.v (.int .i64 c)), .row t 1 x] => if t = 5 then (unBys x).map fun l => ⟨a, b, c, l⟩ else none
  | _ => none
theorem unNcT_ok {xs : List NC} {c : Pk} (h : unNcT xs = some c) : xs = c.nc := by
  unfold unNcT at h
  split at h
  · rename_i ys
    split at h
    · rename_i e
      subst e
      obtain ⟨l, h1, h2⟩ := Option.map_eq_some_iff.1 h
      subst h2
      rw [unBys_ok h1]
      rfl
    · cases h
  · cases h
def unNcs : List (List NC) → Option (List Pk)
  | [] => some []
  | x :: l => (unNcT x).bind fun p => (unNcs l).map (p :: ·)
theorem unNcs_ok : ∀ {xs : List (List NC)} {l : List Pk}, unNcs xs = some l → xs = l.map Pk.nc
  | [], l, h => by cases h; rfl
  | x :: xs, l, h => by
    unfold unNcs at h
    obtain ⟨p, h1, h2⟩ := Option.bind_eq_some_iff.1 h
    obtain ⟨l', h3, rfl⟩ := Option.map_eq_some_iff.1 h2
    rw [unNcT_ok h1, unNcs_ok h3]
    rfl
@[go_sem] theorem unNcs_map (l : List Pk) : unNcs (l.map Pk.nc) = some l := by
  induction l with
  | nil => rfl
  | cons p l ih =>
    have : unNcT p.nc = some p := by simp [unNcT, Pk.nc, unBys_map]
    simp only [List.map_cons, unNcs, this, ih]
    rfl
@[go_sem] theorem ncTs_nc (l : List Pk) : ncTs (l.map Pk.nc) = some (l.map Pk.tr) := by
  induction l with
  | nil => rfl
  | cons p l ih =>
    unfold ncTs at ih ⊢
    simp only [List.map_cons, allSome, Pk.nc, ncT, List.map_nil, Option.map_some]
    rw [show (fun x : List NC => allSome (x.map ncT)) = (fun x => allSome (List.map ncT x)) from rfl] at ih
    rw [ih]
    rfl
attribute [go_sem] unPk Pk.cv
/-! sizes -/
theorem szPk_tc (p : Pk) (left : Int) (h : p.bytes.length ≤ maxLen) : TC Try.prog 132 [.agg p.cv, int left] [] 1 (int (lft left p.bytes.length)) [] 1 := by
  refine tc_intro Try.func132 rfl 12 rfl (Nat.le_of_ble_eq_true rfl) (by decide) [4] rfl (by intro id x h; cases h) ?_
  intro w0 E0
  have kOk := kD0
  obtain ⟨a, b, c, l⟩ := p
  have hp := eq_true h
  simp only [Pk.cv]
  repeat' (fail_if_success (with_reducible apply amR_id)); first
    | (refine guardP_mk (fun h => ?_) (fun h => ?_) <;> (refine go1 ?_; try simp only [decide_eq_true_eq, decide_eq_false_iff_not, Bool.not_true, Bool.not_false, Bool.not_eq_true', Bool.not_eq_false', beq_iff_eq, bne_iff_ne, beq_eq_false_iff_ne, bne_eq_false_iff_eq, ne_eq, Bool.false_eq_true, reduceCtorEq] at h))
    | (refine hK _ ?_; clear hK K Q1)
    | (refine ⟨by first | omega | (simp only [List.length_map, List.length_append, List.length_cons, List.length_nil, List.length_replicate, List.length_drop, List.length_take]; omega), by unfold maxLen; first | omega | (simp only [List.length_map, List.length_append, List.length_cons, List.length_nil, List.length_replicate, List.length_drop, List.length_take]; omega), ?_⟩)
    | (refine hK _ _ rfl ?_; clear hK K; try refine go1 ?_)
    | (refine am_retP rfl ?_ rfl; first | refine go ?_ | rfl)
    | (refine am_retC [] rfl ?_ rfl rfl; first | refine go ?_ | rfl)
    | (refine wkq ?_)
    | (refine am_rs tabOk kOk rfl fun K Q1 hK => ?_; refine go1 ?_)
    | (refine am_reg tabOk kOk rfl fun K Q1 hK => ?_; refine go1 ?_)
    | (refine am_ds mixed tabOk kOk rfl rfl fun K hK => ?_; refine go1 ?_)
    | (refine am_dreg mixed tabOk kOk rfl rfl fun K hK => ?_; refine go1 ?_)
  all_goals (clear hp; simp only [TV.c.injEq, CV.t.injEq, Tree.v.injEq, Value.int.injEq, true_and]; simp only [lft] at *; grind)
def kd2_0_1 (n : Int) (p : Pk) : Option TV := if p.bytes.length ≤ maxLen then some (int (lft n p.bytes.length)) else none
def kd2_0_0 (n : Int) (r0 : List CV) : Option TV := (unPk r0).bind (kd2_0_1 n)
def kd2_0 : List TV → Option TV
  | [.agg r0, .c (.t (.v (.int .i64 n)))] => kd2_0_0 n r0
  | _ => none
def kd2_call (f : FuncId) (args : List TV) : Option TV := if f = 132 then orO (kd2_0 args) (kd0.call f args) else kd0.call f args
def kd2 : Kn := { call := kd2_call, eqs := eqTys, callB := kd0.callB }
attribute [go_sem] kd2_0_0 kd2_0_1 kd2_0 kd2_call kd2
theorem kd2_ok : ∀ f args res, kd2_call f args = some res → TC Try.prog f args [] 1 res [] 1 := by
  intro f args res h
  unfold kd2_call at h
  split at h
  · rename_i e; subst e
    have hh := orO_elim h
    clear h
    rcases hh with h | h
    rotate_left
    · exact kD0.call _ _ _ h
    unfold kd2_0 at h
    split at h
    · rename_i r0 n; unfold kd2_0_0 at h
      obtain ⟨p, e0, h⟩ := Option.bind_eq_some_iff.1 h
      unfold kd2_0_1 at h
      split at h
      · rename_i hc; cases h; rw [unPk_ok e0]; exact szPk_tc p n hc
      · cases h
    · cases h
  · exact kD0.call f args res h
theorem kD2 : KnOk Try.prog kd2 := ⟨kd2_ok, eqTysOk, kD0.callB⟩
def szPkGo : List Pk → Int → Int
  | [], s => s
  | e :: l, s => if lft s e.bytes.length < 0 then -1 else szPkGo l (lft s e.bytes.length)
def szPksF (l : List Pk) (left : Int) : Int := if IntKind.i64.wrap (left - l.length) < 0 then -1 else szPkGo l (IntKind.i64.wrap (left - l.length))
theorem szPkGo_drop {l : List Pk} {k : Nat} {e : Pk} (h : l[k]? = some e) (s : Int) : szPkGo (l.drop k) s = if lft s e.bytes.length < 0 then -1 else szPkGo (l.drop (k + 1)) (lft s e.bytes.length) := by
  have hk := (List.getElem?_eq_some_iff.1 h).1
  rw [List.drop_eq_getElem_cons hk]
  have : l[k] = e := by rw [List.getElem?_eq_getElem hk] at h; exact Option.some.inj h
  simp only [szPkGo, this]
set_option maxHeartbeats 8000000 in
theorem szPks_tc (l : List Pk) (left : Int) (hl : l.length ≤ maxLen) (hb : ∀ p, p ∈ l → p.bytes.length ≤ maxLen) : TC Try.prog 60 [ro 4 (l.map Pk.tr), int left] [] 1 (int (szPksF l left)) [] 1 := by
  refine tc_intro Try.func60 rfl 27 rfl (Nat.le_of_ble_eq_true rfl) (by decide) [4] rfl (by intro id x h; cases h) ?_
  intro w0 E0
  have kOk := kD2
  unfold maxLen at hl
  have hp : (l.map Pk.tr).length = l.length := by simp
  refine wk1 ?_
  refine guardP_mk (fun h => ?_) (fun h => ?_)
  · refine go1 ?_
    refine wk1 ?_
    refine am_retP rfl ?_ rfl
    refine go ?_
    simp only [decide_eq_true_eq] at h
    simp only [szPksF, if_pos h]
  simp only [Bool.not_true, decide_eq_false_iff_not] at h
  have hs : szPksF l left = szPkGo l (IntKind.i64.wrap (left - l.length)) := by simp only [szPksF, if_neg h]
  rw [hs]
  refine go1 ?_
  refine wk1 ?_
  refine am_tidy [] [0, 1, 5] 1 rfl ?_
  refine go1 ?_
  clear hp
  refine am_loop (l.length + 1) ?_
  suffices key : ∀ (d k : Nat) (s : Int), k + d = l.length → szPkGo (l.drop k) s = szPkGo l (IntKind.i64.wrap (left - l.length)) → amR Try.prog _ _ _ (d + 1) ⟨[(0, ro 4 (l.map Pk.tr)), (1, int s), (5, int (k : Nat))], [], 1⟩ from key l.length 0 _ (by simp) rfl
  intro d
  induction d with
  | zero =>
    intro k s hk hf
    have hp : (l.map Pk.tr).length = l.length := by simp
    rw [List.drop_eq_nil_of_le (by omega)] at hf
    refine amR_succ ?_
    repeat' (fail_if_success (with_reducible apply amR_id)); first
      | (refine guardP_mk (fun h => ?_) (fun h => ?_) <;> (refine go1 ?_; try simp only [decide_eq_true_eq, decide_eq_false_iff_not, Bool.not_true, Bool.not_false, Bool.not_eq_true', Bool.not_eq_false', beq_iff_eq, bne_iff_ne, beq_eq_false_iff_ne, bne_eq_false_iff_eq, ne_eq, Bool.false_eq_true, reduceCtorEq] at h))
      | (refine hK _ ?_; clear hK K Q1)
      | (refine ⟨by first | omega | (simp only [List.length_map, List.length_append, List.length_cons, List.length_nil, List.length_replicate, List.length_drop, List.length_take]; omega), by unfold maxLen; first | omega | (simp only [List.length_map, List.length_append, List.length_cons, List.length_nil, List.length_replicate, List.length_drop, List.length_take]; omega), ?_⟩)
      | (refine hK _ _ rfl ?_; clear hK K; try refine go1 ?_)
      | (refine am_retP rfl ?_ rfl; first | refine go ?_ | rfl)
      | (refine am_retC [] rfl ?_ rfl rfl; first | refine go ?_ | rfl)
      | (refine wkq ?_)
      | (refine am_rs tabOk kOk rfl fun K Q1 hK => ?_; refine go1 ?_)
      | (refine am_reg tabOk kOk rfl fun K Q1 hK => ?_; refine go1 ?_)
      | (refine am_ds mixed tabOk kOk rfl rfl fun K hK => ?_; refine go1 ?_)
      | (refine am_dreg mixed tabOk kOk rfl rfl fun K hK => ?_; refine go1 ?_)
    all_goals first | (exfalso; omega) | (rw [← hf]; rfl)
  | succ d ih =>
    intro k s hk hf
    obtain ⟨e, he⟩ : ∃ e, l[k]? = some e := ⟨l[k]'(by omega), List.getElem?_eq_getElem (by omega)⟩
    rw [szPkGo_drop he] at hf
    have hp := (show (l.map Pk.tr).length = l.length ∧ (l.map Pk.tr)[k]? = some e.tr ∧ IntKind.i64.wrap ((k : Int) + 1) = ((k + 1 : Nat) : Int) ∧ (e.bytes.length ≤ maxLen) = True from ⟨by simp, by rw [List.getElem?_map, he]; rfl, by rw [wrapN (by omega) (by omega)]; rfl, eq_true (hb e (List.mem_of_getElem? he))⟩)
    obtain ⟨a, b, c, v⟩ := e
    simp only [Pk.tr] at hp
    simp only at hf
    refine amR_succ ?_
    repeat' (fail_if_success (with_reducible apply amR_id)); first
      | (refine guardP_mk (fun h => ?_) (fun h => ?_) <;> (refine go1 ?_; try simp only [decide_eq_true_eq, decide_eq_false_iff_not, Bool.not_true, Bool.not_false, Bool.not_eq_true', Bool.not_eq_false', beq_iff_eq, bne_iff_ne, beq_eq_false_iff_ne, bne_eq_false_iff_eq, ne_eq, Bool.false_eq_true, reduceCtorEq] at h))
      | (refine hK _ ?_; clear hK K Q1)
      | (refine ⟨by first | omega | (simp only [List.length_map, List.length_append, List.length_cons, List.length_nil, List.length_replicate, List.length_drop, List.length_take]; omega), by unfold maxLen; first | omega | (simp only [List.length_map, List.length_append, List.length_cons, List.length_nil, List.length_replicate, List.length_drop, List.length_take]; omega), ?_⟩)
      | (refine hK _ _ rfl ?_; clear hK K; try refine go1 ?_)
      | (refine am_retP rfl ?_ rfl; first | refine go ?_ | rfl)
      | (refine am_retC [] rfl ?_ rfl rfl; first | refine go ?_ | rfl)
      | (refine wkq ?_)
      | (refine am_rs tabOk kOk rfl fun K Q1 hK => ?_; refine go1 ?_)
      | (refine am_reg tabOk kOk rfl fun K Q1 hK => ?_; refine go1 ?_)
      | (refine am_ds mixed tabOk kOk rfl rfl fun K hK => ?_; refine go1 ?_)
      | (refine am_dreg mixed tabOk kOk rfl rfl fun K hK => ?_; refine go1 ?_)
    all_goals try (refine amR_tidy [] [0, 1, 5] 1 rfl ?_; refine go1 ?_; refine ih (k + 1) _ ?_ ?_)
    all_goals first | omega | (clear ih hp; simp only [TV.c.injEq, CV.t.injEq, Tree.v.injEq, Value.int.injEq, true_and]; rw [← hf]; grind) | (clear ih hp; grind)
theorem szPkGo_le : ∀ {l : List Pk} {x : Int}, (∀ p, p ∈ l → p.bytes.length ≤ maxLen) → 0 ≤ x → x ≤ 1048576 → ¬ szPkGo l x < 0 → szPkGo l x ≤ x ∧ (((l.map fun p => p.bytes.length).sum : Nat) : Int) ≤ x
  | [], x, _, h0, h1, h2 => by simp only [szPkGo, List.map_nil, List.sum_nil] at *; omega
  | p :: l, x, hb, h0, h1, h2 => by
    have h3 := hb p List.mem_cons_self
    unfold maxLen at h3
    simp only [szPkGo] at h2 ⊢
    have e : IntKind.i64.wrap (x - p.bytes.length) = x - p.bytes.length := by rw [IntKind.wrap_i64]; omega
    have e2 : ¬ lft x p.bytes.length < 0 := fun h => by rw [if_pos h] at h2; omega
    rw [if_neg e2] at h2 ⊢
    have e3 : lft x p.bytes.length = x - p.bytes.length := by
      unfold lft at e2 ⊢
      rw [e] at e2 ⊢
      split at e2
      · omega
      · rename_i h; rw [if_neg h]
    rw [e3] at e2 h2 ⊢
    have := szPkGo_le (l := l) (x := x - p.bytes.length) (fun q hq => hb q (List.mem_cons_of_mem _ hq)) (by omega) (by omega) h2
    simp only [List.map_cons, List.sum_cons]
    omega
/-! copies -/
theorem toPk_tc (p : Pk) (h : p.bytes.length ≤ 1048576) : TC Try.prog 133 [.agg p.cv] [] 1 (.agg [ci p.id, ci p.fr, ci p.to, .own 1 0 p.bytes.length]) [(1, .arr 5 1 (p.bytes.map bTr))] 2 := by
  refine tc_cell tabOk Try.func133 rfl 18 rfl (Nat.le_of_ble_eq_true rfl) (by decide) [(2, some 44)] rfl (by intro id x h; cases h) ?_
  intro w0 E0
  have kOk := kD1
  obtain ⟨a, b, c, l⟩ := p
  have hp := eq_true h
  simp only [Pk.cv]
  refine wk1 ?_
  refine am_retC [(4, 1)] rfl ?_ rfl rfl
  first | refine go ?_ | rfl
theorem toPkF_tc (p : Pk) (h : p.bytes.length ≤ 1048576) : TC Try.prog 133 [.agg p.cv] [] 1 (.agg p.cv) [] 1 := tc_freeze (xs := [.v (.int .i64 p.id), .v (.int .i64 p.fr), .v (.int .i64 p.to)]) (toPk_tc p h) (by simp)
theorem cpPk_tc (p : Pk) (h : p.bytes.length ≤ 1048576) : TC Try.prog 80 [.agg p.cv] [] 1 (.agg [ci p.id, ci p.fr, ci p.to, .own 1 0 p.bytes.length]) [(1, .arr 5 1 (p.bytes.map bTr))] 2 := by
  refine tc_cell tabOk Try.func80 rfl 13 rfl (Nat.le_of_ble_eq_true rfl) (by decide) [(2, some 44)] rfl (by intro id x h; cases h) ?_
  intro w0 E0
  have kOk := kD1
  obtain ⟨a, b, c, l⟩ := p
  have hp := (show (l.length ≤ 1073741824) = True from eq_true (by simp only at h; omega))
  simp only [Pk.cv]
  refine wk1 ?_
  refine am_retC [(3, 1)] rfl ?_ rfl rfl
  first | refine go ?_ | rfl
theorem cpPkF_tc (p : Pk) (h : p.bytes.length ≤ 1048576) : TC Try.prog 80 [.agg p.cv] [] 1 (.agg p.cv) [] 1 := tc_freeze (xs := [.v (.int .i64 p.id), .v (.int .i64 p.fr), .v (.int .i64 p.to)]) (cpPk_tc p h) (by simp)
/-! comparisons -/
theorem eqPk_tc (c d : Pk) (h : c.bytes.length ≤ 1048576) : TC Try.prog 83 [.agg c.cv, .agg d.cv] [] 1 (bool (decide (c = d))) [] 1 := by
  refine tc_intro Try.func83 rfl 26 rfl (Nat.le_of_ble_eq_true rfl) (by decide) [4] rfl (by intro id x h; cases h) ?_
  intro w0 E0
  have kOk := kD0
  obtain ⟨a, b, e, l⟩ := c
  obtain ⟨a', b', e', l'⟩ := d
  have hp := eq_true h
  simp only [Pk.cv]
  repeat' (fail_if_success (with_reducible apply amR_id)); first
    | (refine guardP_mk (fun h => ?_) (fun h => ?_) <;> (refine go1 ?_; try simp only [decide_eq_true_eq, decide_eq_false_iff_not, Bool.not_true, Bool.not_false, Bool.not_eq_true', Bool.not_eq_false', beq_iff_eq, bne_iff_ne, beq_eq_false_iff_ne, bne_eq_false_iff_eq, ne_eq, Bool.false_eq_true, reduceCtorEq] at h))
    | (refine hK _ ?_; clear hK K Q1)
    | (refine ⟨by first | omega | (simp only [List.length_map, List.length_append, List.length_cons, List.length_nil, List.length_replicate, List.length_drop, List.length_take]; omega), by unfold maxLen; first | omega | (simp only [List.length_map, List.length_append, List.length_cons, List.length_nil, List.length_replicate, List.length_drop, List.length_take]; omega), ?_⟩)
    | (refine hK _ _ rfl ?_; clear hK K; try refine go1 ?_)
    | (refine am_retP rfl ?_ rfl; first | refine go ?_ | rfl)
    | (refine am_retC [] rfl ?_ rfl rfl; first | refine go ?_ | rfl)
    | (refine wkq ?_)
    | (refine am_rs tabOk kOk rfl fun K Q1 hK => ?_; refine go1 ?_)
    | (refine am_reg tabOk kOk rfl fun K Q1 hK => ?_; refine go1 ?_)
    | (refine am_ds mixed tabOk kOk rfl rfl fun K hK => ?_; refine go1 ?_)
    | (refine am_dreg mixed tabOk kOk rfl rfl fun K hK => ?_; refine go1 ?_)
  all_goals simp_all
/-! what is written into them -/
def mkPks : List Pk → Int → List Pk
  | [], _ => []
  | p :: l, k => ⟨k, k + 1, k + 1 + 1, mkBs p.bytes.length (k + 1 + 1 + 1)⟩ :: mkPks l (k + 1 + 1 + 1 + (p.bytes.length : Nat))
def pkSum (l : List Pk) : Nat := (l.map fun p => 3 + p.bytes.length).sum
theorem pkSum_cons (p : Pk) (l : List Pk) : pkSum (p :: l) = 3 + p.bytes.length + pkSum l := by simp [pkSum]
theorem mkPks_len : ∀ (l : List Pk) (k : Int), (mkPks l k).length = l.length
  | [], _ => rfl
  | _ :: l, k => by simp [mkPks, mkPks_len l]
theorem pkSum_mk : ∀ (l : List Pk) (k : Int), pkSum (mkPks l k) = pkSum l
  | [], _ => rfl
  | p :: l, k => by simp [mkPks, pkSum_cons, pkSum_mk l, mkBs_len]
theorem mkPks_self : ∀ (l : List Pk) (k : Int), mkPks (mkPks l k) k = mkPks l k
  | [], _ => rfl
  | p :: l, k => by simp [mkPks, mkBs_len, mkPks_self l]
def pksBig (l : List Pk) : Bool := decide (l.length ≤ maxLen ∧ ∀ p, p ∈ l → p.bytes.length ≤ maxLen)
def pksOk (l : List Pk) : Bool := decide (l.length ≤ 1048576 ∧ (∀ p, p ∈ l → p.bytes.length ≤ 1048576) ∧ pkSum l ≤ 8388608)
def kd3_0_1 (n : Int) (l : List Pk) : Option TV := if pksBig l = true then some (int (szPksF l n)) else none
def kd3_0_0 (n : Int) (r0 : List (List Tree)) : Option TV := (unPks r0).bind (kd3_0_1 n)
def kd3_0 : List TV → Option TV
  | [.c (.t (.sl 4 r0)), .c (.t (.v (.int .i64 n)))] => kd3_0_0 n r0
  | _ => none
def kd3_1_2 (c : Pk) (d : Pk) : Option TV := if c.bytes.length ≤ 1048576 then some (bool (decide (c = d))) else none
def kd3_1_1 (r1 : List CV) (c : Pk) : Option TV := (unPk r1).bind (kd3_1_2 c)
def kd3_1_0 (r0 : List CV) (r1 : List CV) : Option TV := (unPk r0).bind (kd3_1_1 r1)
def kd3_1 : List TV → Option TV
  | [.agg r0, .agg r1] => kd3_1_0 r0 r1
  | _ => none
def kd3_2_1 (c : Pk) : Option TV := if c.bytes.length ≤ 1048576 then some (.agg c.cv) else none
def kd3_2_0 (r0 : List CV) : Option TV := (unPk r0).bind (kd3_2_1)
def kd3_2 : List TV → Option TV
  | [.agg r0] => kd3_2_0 r0
  | _ => none
def kd3_3_1 (c : Pk) : Option TV := if c.bytes.length ≤ 1048576 then some (.agg c.cv) else none
def kd3_3_0 (r0 : List CV) : Option TV := (unPk r0).bind (kd3_3_1)
def kd3_3 : List TV → Option TV
  | [.agg r0] => kd3_3_0 r0
  | _ => none
def kd3_call (f : FuncId) (args : List TV) : Option TV := if f = 60 then orO (kd3_0 args) (kd2.call f args) else if f = 83 then orO (kd3_1 args) (kd2.call f args) else if f = 133 then orO (kd3_2 args) (kd2.call f args) else if f = 80 then orO (kd3_3 args) (kd2.call f args) else kd2.call f args
def kd3 : Kn := { call := kd3_call, eqs := eqTys, callB := kd2.callB }
attribute [go_sem] kd3_0_0 kd3_0_1 kd3_0 kd3_1_0 kd3_1_1 kd3_1_2 kd3_1 kd3_2_0 kd3_2_1 kd3_2 kd3_3_0 kd3_3_1 kd3_3 kd3_call kd3
theorem kd3_ok : ∀ f args res, kd3_call f args = some res → TC Try.prog f args [] 1 res [] 1 := by
  intro f args res h
  unfold kd3_call at h
  split at h
  · rename_i e; subst e
    have hh := orO_elim h
    clear h
    rcases hh with h | h
    rotate_left
    · exact kD2.call _ _ _ h
    unfold kd3_0 at h
    split at h
    · rename_i r0 n; unfold kd3_0_0 at h
      obtain ⟨l, e0, h⟩ := Option.bind_eq_some_iff.1 h
      unfold kd3_0_1 at h
      split at h
      · rename_i hc; cases h; rw [unPks_ok e0]; exact szPks_tc l n (of_decide_eq_true hc).1 (of_decide_eq_true hc).2
      · cases h
    · cases h
  split at h
  · rename_i e; subst e
    have hh := orO_elim h
    clear h
    rcases hh with h | h
    rotate_left
    · exact kD2.call _ _ _ h
    unfold kd3_1 at h
    split at h
    · rename_i r0 r1; unfold kd3_1_0 at h
      obtain ⟨c, e0, h⟩ := Option.bind_eq_some_iff.1 h
      unfold kd3_1_1 at h
      obtain ⟨d, e1, h⟩ := Option.bind_eq_some_iff.1 h
      unfold kd3_1_2 at h
      split at h
      · rename_i hc; cases h; rw [unPk_ok e0, unPk_ok e1]; exact eqPk_tc c d hc
      · cases h
    · cases h
  split at h
  · rename_i e; subst e
    have hh := orO_elim h
    clear h
    rcases hh with h | h
    rotate_left
    · exact kD2.call _ _ _ h
    unfold kd3_2 at h
    split at h
    · rename_i r0; unfold kd3_2_0 at h
      obtain ⟨c, e0, h⟩ := Option.bind_eq_some_iff.1 h
      unfold kd3_2_1 at h
      split at h
      · rename_i hc; cases h; rw [unPk_ok e0]; exact toPkF_tc c hc
      · cases h
    · cases h
  split at h
  · rename_i e; subst e
    have hh := orO_elim h
    clear h
    rcases hh with h | h
    rotate_left
    · exact kD2.call _ _ _ h
    unfold kd3_3 at h
    split at h
    · rename_i r0; unfold kd3_3_0 at h
      obtain ⟨c, e0, h⟩ := Option.bind_eq_some_iff.1 h
      unfold kd3_3_1 at h
      split at h
      · rename_i hc; cases h; rw [unPk_ok e0]; exact cpPkF_tc c hc
      · cases h
    · cases h
  · exact kD2.call f args res h
theorem kD3 : KnOk Try.prog kd3 := ⟨kd3_ok, eqTysOk, kD2.callB⟩
end Go.Proofs.YthnpbfljoghbmaaA
