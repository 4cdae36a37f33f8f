/- Nodes: who has granted, what is known of the others. -/
import Derived.Test.YtgalnkilcajgcaaFNode2
namespace Go.Proofs.YtgalnkilcajgcaaA
open Go.Proofs
set_option autoImplicit false
set_option linter.unusedVariables false
set_option linter.unusedSimpArgs false
set_option maxRecDepth 4000
def ixF : List Int → Int → Int → Int
  | [], _, _ => -1
  | y :: l, x, k => if x = y then k else ixF l x (k + 1)
theorem ixF_drop {l : List Int} {k : Nat} {e : Int} (h : l[k]? = some e) (x j : Int) : ixF (l.drop k) x j = if x = e then j else ixF (l.drop (k + 1)) x (j + 1) := by
  have hk := (List.getElem?_eq_some_iff.1 h).1
  rw [List.drop_eq_getElem_cons hk]
  have : l[k] = e := by rw [List.getElem?_eq_getElem hk] at h; exact Option.some.inj h
  simp only [ixF, this]
theorem ixF_mem {l : List Int} {x : Int} : ∀ {k : Int}, 0 ≤ k → (0 ≤ ixF l x k ↔ x ∈ l) := by
  induction l with
  | nil => intro k hk; simp [ixF]
  | cons y l ih =>
    intro k hk
    by_cases h : x = y
    · simp [ixF, h, hk]
    · simp only [ixF, if_neg h, List.mem_cons]
      rw [ih (by omega)]
      simp [h]
set_option maxHeartbeats 8000000 in
theorem ix_tc (l : List Int) (x : Int) (hl : l.length ≤ 1048576) : TC Try.prog 237 [ro 1 (l.map iTr), int x] [] 1 (int (ixF l x 0)) [] 1 := by
  refine tc_intro Try.func237 rfl 19 rfl (Nat.le_of_ble_eq_true rfl) (by decide) [4] rfl (by intro id x h; cases h) ?_
  intro w0 E0
  have kOk := k31
  have hp : (l.map iTr).length = l.length := by simp
  refine wk1 ?_
  refine am_tidy [] [0, 1, 7, 8] 1 rfl ?_
  refine go1 ?_
  clear hp
  refine am_loop (l.length + 1) ?_
  suffices key : ∀ (d k : Nat), k + d = l.length → ixF (l.drop k) x k = ixF l x 0 → amR Try.prog _ _ _ (d + 1) ⟨[(0, ro 1 (l.map iTr)), (1, int x), (7, int (l.length : Nat)), (8, int (k : Nat))], [], 1⟩ from key l.length 0 (by simp) rfl
  intro d
  induction d with
  | zero =>
    intro k hk hf
    have hp : (l.map iTr).length = l.length := by simp
    rw [List.drop_eq_nil_of_le (by omega)] at hf
    refine amR_succ ?_
    repeat' (fail_if_success (with_reducible apply amR_id)); first
      | (refine guardP_mk (fun h => ?_) (fun h => ?_) <;> (refine go1 ?_; try simp only [decide_eq_true_eq, decide_eq_false_iff_not, Bool.not_true, Bool.not_false, Bool.not_eq_true', Bool.not_eq_false', beq_iff_eq, bne_iff_ne, beq_eq_false_iff_ne, bne_eq_false_iff_eq, ne_eq, Bool.false_eq_true, reduceCtorEq] at h))
      | (refine hK _ ?_; clear hK K Q1)
      | (refine hK _ _ rfl ?_; clear hK K; try refine go1 ?_)
      | (refine am_retP rfl ?_ rfl; first | refine go ?_ | rfl)
      | (refine am_retC [] rfl ?_ rfl rfl; first | refine go ?_ | rfl)
      | (refine wkq ?_)
      | (refine am_rs tabOk kOk rfl fun K Q1 hK => ?_; refine go1 ?_)
      | (refine am_ds mixed tabOk kOk rfl rfl fun K hK => ?_; refine go1 ?_)
      | (refine am_dreg mixed tabOk kOk rfl rfl fun K hK => ?_; refine go1 ?_)
    all_goals first | (exfalso; omega) | (rw [← hf]; rfl)
  | succ d ih =>
    intro k hk hf
    obtain ⟨e, he⟩ : ∃ e, l[k]? = some e := ⟨l[k]'(by omega), List.getElem?_eq_getElem (by omega)⟩
    rw [ixF_drop he] at hf
    have hp := (show (l.map iTr)[k]? = some (iTr e) ∧ IntKind.i64.wrap ((k : Int) + 1) = ((k + 1 : Nat) : Int) from ⟨by rw [List.getElem?_map, he]; rfl, by rw [wrapN (by omega) (by omega)]; rfl⟩)
    simp only [iTr] at hp
    refine amR_succ ?_
    repeat' (fail_if_success (with_reducible apply amR_id)); first
      | (refine guardP_mk (fun h => ?_) (fun h => ?_) <;> (refine go1 ?_; try simp only [decide_eq_true_eq, decide_eq_false_iff_not, Bool.not_true, Bool.not_false, Bool.not_eq_true', Bool.not_eq_false', beq_iff_eq, bne_iff_ne, beq_eq_false_iff_ne, bne_eq_false_iff_eq, ne_eq, Bool.false_eq_true, reduceCtorEq] at h))
      | (refine hK _ ?_; clear hK K Q1)
      | (refine hK _ _ rfl ?_; clear hK K; try refine go1 ?_)
      | (refine am_retP rfl ?_ rfl; first | refine go ?_ | rfl)
      | (refine am_retC [] rfl ?_ rfl rfl; first | refine go ?_ | rfl)
      | (refine wkq ?_)
      | (refine am_rs tabOk kOk rfl fun K Q1 hK => ?_; refine go1 ?_)
      | (refine am_ds mixed tabOk kOk rfl rfl fun K hK => ?_; refine go1 ?_)
      | (refine am_dreg mixed tabOk kOk rfl rfl fun K hK => ?_; refine go1 ?_)
    all_goals try (refine amR_tidy [] [0, 1, 7, 8] 1 rfl ?_; refine go1 ?_; refine ih (k + 1) ?_ ?_)
    all_goals first | omega | (clear ih hp; simp only [TV.c.injEq, CV.t.injEq, Tree.v.injEq, Value.int.injEq, true_and]; grind) | (clear ih hp; grind) | (clear ih hp)
set_option maxHeartbeats 8000000 in
theorem has_tc (l : List Int) (x : Int) (hl : l.length ≤ 1048576) : TC Try.prog 208 [ro 1 (l.map iTr), int x] [] 1 (bool (decide (x ∈ l))) [] 1 := by
  refine tc_intro Try.func208 rfl 18 rfl (Nat.le_of_ble_eq_true rfl) (by decide) [4] rfl (by intro id x h; cases h) ?_
  intro w0 E0
  have kOk := k31
  refine wk ?_
  refine am_tidy [] [0, 1, 5] 1 rfl ?_
  refine go ?_
  refine am_loop (l.length + 1) ?_
  suffices key : ∀ (d k : Nat), k + d = l.length → (x ∈ l.drop k ↔ x ∈ l) → amR Try.prog _ _ _ (d + 1) ⟨[(0, ro 1 (l.map iTr)), (1, int x), (5, int (k : Nat))], [], 1⟩ from key l.length 0 (by simp) (by simp)
  intro d
  induction d with
  | zero =>
    intro k hk hf
    have hp : (l.map iTr).length = l.length := by simp
    rw [List.drop_eq_nil_of_le (by omega)] at hf
    refine amR_succ ?_
    repeat' (fail_if_success (with_reducible apply amR_id)); first
      | (refine guardP_mk (fun h => ?_) (fun h => ?_) <;> (refine go1 ?_; try simp only [decide_eq_true_eq, decide_eq_false_iff_not, Bool.not_true, Bool.not_false, Bool.not_eq_true', Bool.not_eq_false', beq_iff_eq, bne_iff_ne, beq_eq_false_iff_ne, bne_eq_false_iff_eq, ne_eq, Bool.false_eq_true, reduceCtorEq] at h))
      | (refine hK _ ?_; clear hK K Q1)
      | (refine hK _ _ rfl ?_; clear hK K; try refine go1 ?_)
      | (refine am_retP rfl ?_ rfl; first | refine go ?_ | rfl)
      | (refine am_retC [] rfl ?_ rfl rfl; first | refine go ?_ | rfl)
      | (refine wkq ?_)
      | (refine am_rs tabOk kOk rfl fun K Q1 hK => ?_; refine go1 ?_)
      | (refine am_ds mixed tabOk kOk rfl rfl fun K hK => ?_; refine go1 ?_)
      | (refine am_dreg mixed tabOk kOk rfl rfl fun K hK => ?_; refine go1 ?_)
    all_goals first | (exfalso; omega) | (have : ¬ x ∈ l := by rw [← hf]; simp
                                          simp [this])
  | succ d ih =>
    intro k hk hf
    obtain ⟨e, he⟩ : ∃ e, l[k]? = some e := ⟨l[k]'(by omega), List.getElem?_eq_getElem (by omega)⟩
    have hd2 : l.drop k = e :: l.drop (k + 1) := by
      have hk' := (List.getElem?_eq_some_iff.1 he).1
      rw [List.drop_eq_getElem_cons hk']
      rw [List.getElem?_eq_getElem hk'] at he
      rw [Option.some.inj he]
    rw [hd2, List.mem_cons] at hf
    have hp := (show (l.map iTr).length = l.length ∧ (l.map iTr)[k]? = some (iTr e) ∧ IntKind.i64.wrap ((k : Int) + 1) = ((k + 1 : Nat) : Int) from ⟨by simp, by rw [List.getElem?_map, he]; rfl, by rw [wrapN (by omega) (by omega)]; rfl⟩)
    simp only [iTr] at hp
    refine amR_succ ?_
    repeat' (fail_if_success (with_reducible apply amR_id)); first
      | (refine guardP_mk (fun h => ?_) (fun h => ?_) <;> (refine go1 ?_; try simp only [decide_eq_true_eq, decide_eq_false_iff_not, Bool.not_true, Bool.not_false, Bool.not_eq_true', Bool.not_eq_false', beq_iff_eq, bne_iff_ne, beq_eq_false_iff_ne, bne_eq_false_iff_eq, ne_eq, Bool.false_eq_true, reduceCtorEq] at h))
      | (refine hK _ ?_; clear hK K Q1)
      | (refine hK _ _ rfl ?_; clear hK K; try refine go1 ?_)
      | (refine am_retP rfl ?_ rfl; first | refine go ?_ | rfl)
      | (refine am_retC [] rfl ?_ rfl rfl; first | refine go ?_ | rfl)
      | (refine wkq ?_)
      | (refine am_rs tabOk kOk rfl fun K Q1 hK => ?_; refine go1 ?_)
      | (refine am_ds mixed tabOk kOk rfl rfl fun K hK => ?_; refine go1 ?_)
      | (refine am_dreg mixed tabOk kOk rfl rfl fun K hK => ?_; refine go1 ?_)
    all_goals try (refine amR_tidy [] [0, 1, 5] 1 rfl ?_; refine go1 ?_; refine ih (k + 1) ?_ ?_)
    all_goals first | omega | (clear ih hp; simp only [TV.c.injEq, CV.t.injEq, Tree.v.injEq, Value.bool.injEq]; grind) | (clear ih hp; grind) | (clear ih hp)
def kn32_0_1 (x : Int) (l : List Int) : Option TV := if l.length ≤ 1048576 then some (int (ixF l x 0)) else none
def kn32_0_0 (x : Int) (r0 : List (List Tree)) : Option TV := (unInts r0).bind (kn32_0_1 x)
def kn32_0 : List TV → Option TV
  | [.c (.t (.sl 1 r0)), .c (.t (.v (.int .i64 x)))] => kn32_0_0 x r0
  | _ => none
def kn32_1_1 (x : Int) (l : List Int) : Option TV := if l.length ≤ 1048576 then some (bool (decide (x ∈ l))) else none
def kn32_1_0 (x : Int) (r0 : List (List Tree)) : Option TV := (unInts r0).bind (kn32_1_1 x)
def kn32_1 : List TV → Option TV
  | [.c (.t (.sl 1 r0)), .c (.t (.v (.int .i64 x)))] => kn32_1_0 x r0
  | _ => none
def kn32_call (f : FuncId) (args : List TV) : Option TV := if f = 237 then orO (kn32_0 args) (kn31.call f args) else if f = 208 then orO (kn32_1 args) (kn31.call f args) else kn31.call f args
def kn32 : Kn := { call := kn32_call, eqs := eqTys, callB := kn31.callB }
attribute [go_sem] kn32_0_0 kn32_0_1 kn32_0 kn32_1_0 kn32_1_1 kn32_1 kn32_call kn32
theorem kn32_ok : ∀ f args res, kn32_call f args = some res → TC Try.prog f args [] 1 res [] 1 := by
  intro f args res h
  unfold kn32_call at h
  split at h
  · rename_i e; subst e
    have hh := orO_elim h
    clear h
    rcases hh with h | h
    rotate_left
    · exact k31.call _ _ _ h
    unfold kn32_0 at h
    split at h
    · rename_i r0 x; unfold kn32_0_0 at h
      obtain ⟨l, e0, h⟩ := Option.bind_eq_some_iff.1 h
      unfold kn32_0_1 at h
      split at h
      · rename_i hc; cases h; rw [unInts_ok e0]; exact ix_tc l x hc
      · cases h
    · cases h
  split at h
  · rename_i e; subst e
    have hh := orO_elim h
    clear h
    rcases hh with h | h
    rotate_left
    · exact k31.call _ _ _ h
    unfold kn32_1 at h
    split at h
    · rename_i r0 x; unfold kn32_1_0 at h
      obtain ⟨l, e0, h⟩ := Option.bind_eq_some_iff.1 h
      unfold kn32_1_1 at h
      split at h
      · rename_i hc; cases h; rw [unInts_ok e0]; exact has_tc l x hc
      · cases h
    · cases h
  · exact k31.call f args res h
theorem k32 : KnOk Try.prog kn32 := ⟨kn32_ok, eqTysOk, k31.callB⟩
theorem con_tc (l : List Int) (x : Int) (hl : l.length ≤ 1048576) : TC Try.prog 211 [ro 1 (l.map iTr), int x] [] 1 (bool (decide (x ∈ l))) [] 1 := by
  refine tc_intro Try.func211 rfl 9 rfl (Nat.le_of_ble_eq_true rfl) (by decide) [4] rfl (by intro id x h; cases h) ?_
  intro w0 E0
  have kOk := k32
  have hp : (l.length ≤ 1048576) = True := eq_true hl
  repeat' (fail_if_success (with_reducible apply amR_id)); first
    | (refine guardP_mk (fun h => ?_) (fun h => ?_) <;> (refine go1 ?_; try simp only [decide_eq_true_eq, decide_eq_false_iff_not, Bool.not_true, Bool.not_false, Bool.not_eq_true', Bool.not_eq_false', beq_iff_eq, bne_iff_ne, beq_eq_false_iff_ne, bne_eq_false_iff_eq, ne_eq, Bool.false_eq_true, reduceCtorEq] at h))
    | (refine hK _ ?_; clear hK K Q1)
    | (refine hK _ _ rfl ?_; clear hK K; try refine go1 ?_)
    | (refine am_retP rfl ?_ rfl; first | refine go ?_ | rfl)
    | (refine am_retC [] rfl ?_ rfl rfl; first | refine go ?_ | rfl)
    | (refine wkq ?_)
    | (refine am_rs tabOk kOk rfl fun K Q1 hK => ?_; refine go1 ?_)
    | (refine am_ds mixed tabOk kOk rfl rfl fun K hK => ?_; refine go1 ?_)
    | (refine am_dreg mixed tabOk kOk rfl rfl fun K hK => ?_; refine go1 ?_)
  all_goals (simp only [TV.c.injEq, CV.t.injEq, Tree.v.injEq, Value.bool.injEq, ge_iff_le]; rw [Bool.eq_iff_iff, decide_eq_true_eq, decide_eq_true_eq]; exact ixF_mem (Int.le_refl 0))
theorem maj_tc (a b : Int) (h : 0 ≤ a) (h2 : a ≤ 1048576) : TC Try.prog 209 [int a, int b] [] 1 (bool (decide (2 * a > b))) [] 1 := by
  refine tc_intro Try.func209 rfl 9 rfl (Nat.le_of_ble_eq_true rfl) (by decide) [4] rfl (by intro id x h; cases h) ?_
  intro w0 E0
  have kOk := k32
  have hp : IntKind.i64.wrap (2 * a) = 2 * a := wrapN (by omega) (by omega)
  repeat' (fail_if_success (with_reducible apply amR_id)); first
    | (refine guardP_mk (fun h => ?_) (fun h => ?_) <;> (refine go1 ?_; try simp only [decide_eq_true_eq, decide_eq_false_iff_not, Bool.not_true, Bool.not_false, Bool.not_eq_true', Bool.not_eq_false', beq_iff_eq, bne_iff_ne, beq_eq_false_iff_ne, bne_eq_false_iff_eq, ne_eq, Bool.false_eq_true, reduceCtorEq] at h))
    | (refine hK _ ?_; clear hK K Q1)
    | (refine hK _ _ rfl ?_; clear hK K; try refine go1 ?_)
    | (refine am_retP rfl ?_ rfl; first | refine go ?_ | rfl)
    | (refine am_retC [] rfl ?_ rfl rfl; first | refine go ?_ | rfl)
    | (refine wkq ?_)
    | (refine am_rs tabOk kOk rfl fun K Q1 hK => ?_; refine go1 ?_)
    | (refine am_ds mixed tabOk kOk rfl rfl fun K hK => ?_; refine go1 ?_)
    | (refine am_dreg mixed tabOk kOk rfl rfl fun K hK => ?_; refine go1 ?_)
  all_goals rfl
theorem ask2_tc (c : Nd) : TC Try.prog 210 [.agg c.cv] [] 1 (bool (decide (c.ro = 1 ∨ c.ro = 2))) [] 1 := by
  refine tc_intro Try.func210 rfl 11 rfl (Nat.le_of_ble_eq_true rfl) (by decide) [2] rfl (by intro id x h; cases h) ?_
  intro w0 E0
  have kOk := k32
  obtain ⟨id, sz, el, be, te, vo, ro, le, co, no, de, he, log, gr, ne, ma, se, st⟩ := c
  simp only [Nd.cv]
  repeat' (fail_if_success (with_reducible apply amR_id)); first
    | (refine guardP_mk (fun h => ?_) (fun h => ?_) <;> (refine go ?_; try simp only [decide_eq_true_eq, decide_eq_false_iff_not, Bool.not_true, Bool.not_false, Bool.not_eq_true', Bool.not_eq_false', beq_iff_eq, bne_iff_ne, beq_eq_false_iff_ne, bne_eq_false_iff_eq, ne_eq, Bool.false_eq_true, reduceCtorEq] at h))
    | (refine hK _ ?_; clear hK K Q1)
    | (refine hK _ _ rfl ?_; clear hK K; try refine go ?_)
    | (refine am_retP rfl ?_ rfl; first | refine go ?_ | rfl)
    | (refine am_retC [] rfl ?_ rfl rfl; first | refine go ?_ | rfl)
    | (refine wkp ?_)
    | (refine am_rs tabOk kOk rfl fun K Q1 hK => ?_; refine go ?_)
    | (refine am_ds mixed tabOk kOk rfl rfl fun K hK => ?_; refine go ?_)
    | (refine am_dreg mixed tabOk kOk rfl rfl fun K hK => ?_; refine go ?_)
  all_goals (simp only [TV.c.injEq, CV.t.injEq, Tree.v.injEq, Value.bool.injEq]; grind)
def kn33_0_1 (x : Int) (l : List Int) : Option TV := if l.length ≤ 1048576 then some (bool (decide (x ∈ l))) else none
def kn33_0_0 (x : Int) (r0 : List (List Tree)) : Option TV := (unInts r0).bind (kn33_0_1 x)
def kn33_0 : List TV → Option TV
  | [.c (.t (.sl 1 r0)), .c (.t (.v (.int .i64 x)))] => kn33_0_0 x r0
  | _ => none
def kn33_1_0 (a : Int) (b : Int) : Option TV := if 0 ≤ a ∧ a ≤ 1048576 then some (bool (decide (2 * a > b))) else none
def kn33_1 : List TV → Option TV
  | [.c (.t (.v (.int .i64 a))), .c (.t (.v (.int .i64 b)))] => kn33_1_0 a b
  | _ => none
def kn33_2_1 (c : Nd) : Option TV := some (bool (decide (c.ro = 1 ∨ c.ro = 2)))
def kn33_2_0 (r0 : List CV) : Option TV := (unNd r0).bind (kn33_2_1)
def kn33_2 : List TV → Option TV
  | [.agg r0] => kn33_2_0 r0
  | _ => none
def kn33_call (f : FuncId) (args : List TV) : Option TV := if f = 211 then orO (kn33_0 args) (kn32.call f args) else if f = 209 then orO (kn33_1 args) (kn32.call f args) else if f = 210 then orO (kn33_2 args) (kn32.call f args) else kn32.call f args
def kn33 : Kn := { call := kn33_call, eqs := eqTys, callB := kn32.callB }
attribute [go_sem] kn33_0_0 kn33_0_1 kn33_0 kn33_1_0 kn33_1 kn33_2_0 kn33_2_1 kn33_2 kn33_call kn33
theorem kn33_ok : ∀ f args res, kn33_call f args = some res → TC Try.prog f args [] 1 res [] 1 := by
  intro f args res h
  unfold kn33_call at h
  split at h
  · rename_i e; subst e
    have hh := orO_elim h
    clear h
    rcases hh with h | h
    rotate_left
    · exact k32.call _ _ _ h
    unfold kn33_0 at h
    split at h
    · rename_i r0 x; unfold kn33_0_0 at h
      obtain ⟨l, e0, h⟩ := Option.bind_eq_some_iff.1 h
      unfold kn33_0_1 at h
      split at h
      · rename_i hc; cases h; rw [unInts_ok e0]; exact con_tc l x hc
      · cases h
    · cases h
  split at h
  · rename_i e; subst e
    have hh := orO_elim h
    clear h
    rcases hh with h | h
    rotate_left
    · exact k32.call _ _ _ h
    unfold kn33_1 at h
    split at h
    · rename_i a b; unfold kn33_1_0 at h
      split at h
      · rename_i hc; cases h; exact maj_tc a b hc.1 hc.2
      · cases h
    · cases h
  split at h
  · rename_i e; subst e
    have hh := orO_elim h
    clear h
    rcases hh with h | h
    rotate_left
    · exact k32.call _ _ _ h
    unfold kn33_2 at h
    split at h
    · rename_i r0; unfold kn33_2_0 at h
      obtain ⟨c, e0, h⟩ := Option.bind_eq_some_iff.1 h
      unfold kn33_2_1 at h
      cases h; rw [unNd_ok e0]; exact ask2_tc c
    · cases h
  · exact k32.call f args res h
theorem k33 : KnOk Try.prog kn33 := ⟨kn33_ok, eqTysOk, k32.callB⟩
/-- A row that is read (the name 'ro' is a field's above). -/
abbrev ro' (sz : Nat) (xs : List (List Tree)) : TV := .c (.t (.sl sz xs))
/-- Numbers that rise, from behind last on, up to size. -/
def incF : List Int → Int → Int → Bool
  | [], _, _ => true
  | j :: l, last, size => decide (last < j ∧ j ≤ size) && incF l j size
theorem incF_drop {l : List Int} {k : Nat} {e : Int} (h : l[k]? = some e) (a b : Int) : incF (l.drop k) a b = (decide (a < e ∧ e ≤ b) && incF (l.drop (k + 1)) e b) := by
  have hk := (List.getElem?_eq_some_iff.1 h).1
  rw [List.drop_eq_getElem_cons hk]
  have : l[k] = e := by rw [List.getElem?_eq_getElem hk] at h; exact Option.some.inj h
  simp only [incF, this]
def grF (c : Nd) : Bool := if c.ro = 1 ∨ c.ro = 2 then incF c.gr 0 c.sz && decide (c.id ∈ c.gr) && decide (2 * (c.gr.length : Int) ≤ c.sz) else decide (c.gr.length = 0)
def rlF (c : Nd) : Bool := decide ((0 ≤ c.ro ∧ c.ro ≤ 3) ∧ (0 ≤ c.le ∧ c.le ≤ c.sz) ∧ (2 ≤ c.ro → 1 ≤ c.te ∧ c.vo = c.id) ∧ (c.le = c.id ↔ c.ro = 3) ∧ ((c.ro = 1 ∨ c.ro = 2) → c.le = 0))
set_option maxHeartbeats 8000000 in
theorem role_tc (c : Nd) : TC Try.prog 150 [.agg c.cv] [] 1 (bool (rlF c)) [] 1 := by
  refine tc_intro Try.func150 rfl 49 rfl (Nat.le_of_ble_eq_true rfl) (by decide) [2] rfl (by intro id x h; cases h) ?_
  intro w0 E0
  have kOk := k33
  obtain ⟨id, sz, el, be, te, vo, ro, le, co, no, de, he, log, gr, ne, ma, se, st⟩ := c
  simp only [Nd.cv]
  repeat' (fail_if_success (with_reducible apply amR_id)); first
    | (refine guardP_mk (fun h => ?_) (fun h => ?_) <;> (refine go ?_; try simp only [decide_eq_true_eq, decide_eq_false_iff_not, Bool.not_true, Bool.not_false, Bool.not_eq_true', Bool.not_eq_false', beq_iff_eq, bne_iff_ne, beq_eq_false_iff_ne, bne_eq_false_iff_eq, ne_eq, Bool.false_eq_true, reduceCtorEq] at h))
    | (refine hK _ ?_; clear hK K Q1)
    | (refine hK _ _ rfl ?_; clear hK K; try refine go ?_)
    | (refine am_retP rfl ?_ rfl; first | refine go ?_ | rfl)
    | (refine am_retC [] rfl ?_ rfl rfl; first | refine go ?_ | rfl)
    | (refine wkp ?_)
    | (refine am_rs tabOk kOk rfl fun K Q1 hK => ?_; refine go ?_)
    | (refine am_ds mixed tabOk kOk rfl rfl fun K hK => ?_; refine go ?_)
    | (refine am_dreg mixed tabOk kOk rfl rfl fun K hK => ?_; refine go ?_)
  all_goals (simp only [TV.c.injEq, CV.t.injEq, Tree.v.injEq, Value.bool.injEq, rlF, inB] at *; grind)
set_option maxHeartbeats 8000000 in
theorem grI_tc (c : Nd) (hl : c.gr.length ≤ 1048576) (h3 : 3 ≤ c.sz) (h7 : c.sz ≤ 7) : TC Try.prog 152 [.agg c.cv] [] 1 (bool (grF c)) [] 1 := by
  refine tc_intro Try.func152 rfl 45 rfl (Nat.le_of_ble_eq_true rfl) (by decide) [2] rfl (by intro id x h; cases h) ?_
  intro w0 E0
  have kOk := k33
  obtain ⟨id, sz, el, be, te, vo, ro, le, co, no, de, he, log, gr, ne, ma, se, st⟩ := c
  have hl' : gr.length ≤ 1048576 := hl
  simp only at h3 h7
  have hq : Int.tdiv sz 2 = sz / 2 := Int.tdiv_eq_ediv_of_nonneg (by omega)
  simp only [Nd.cv]
  have hp := (show (gr.map iTr).length = gr.length ∧ (gr.length ≤ 1048576) = True ∧ IntKind.i64.wrap (Int.tdiv sz 2) = sz / 2 from ⟨by simp, eq_true hl', by rw [hq, wrapN (by omega) (by omega)]⟩)
  by_cases hr : ro = 1 ∨ ro = 2
  · have hg : grF ⟨id, sz, el, be, te, vo, ro, le, co, no, de, he, log, gr, ne, ma, se, st⟩ = (incF gr 0 sz && decide (id ∈ gr) && decide (2 * (gr.length : Int) ≤ sz)) := if_pos hr
    rw [hg]
    have hp := And.intro hp (show decide (ro = 1 ∨ ro = 2) = true from by simpa using hr)
    refine wk1 ?_
    refine am_tidy [(1, 1)] [1, 3, 14, 15, 16] 2 rfl ?_
    refine go1 ?_
    refine am_loop (gr.length + 1) ?_
    suffices key : ∀ (d k : Nat) (la : Int), k + d = gr.length → incF (gr.drop k) la sz = incF gr 0 sz → amR Try.prog _ _ _ (d + 1) ⟨[(1, .c (.ptr 1 0)), (3, int la), (14, ro' 1 (gr.map iTr)), (15, int (gr.length : Nat)), (16, int (k : Nat))], [(1, .cells (Nd.cv ⟨id, sz, el, be, te, vo, ro, le, co, no, de, he, log, gr, ne, ma, se, st⟩))], 2⟩ from key gr.length 0 0 (by simp) rfl
    have hp0 := hp
    clear hp
    intro d
    induction d with
    | zero =>
      intro k la hk hf
      have hp := hp0
      rw [List.drop_eq_nil_of_le (by omega)] at hf
      refine amR_succ ?_
      repeat' (fail_if_success (with_reducible apply amR_id)); first
        | (refine guardP_mk (fun h => ?_) (fun h => ?_) <;> (refine go1 ?_; try simp only [decide_eq_true_eq, decide_eq_false_iff_not, Bool.not_true, Bool.not_false, Bool.not_eq_true', Bool.not_eq_false', beq_iff_eq, bne_iff_ne, beq_eq_false_iff_ne, bne_eq_false_iff_eq, ne_eq, Bool.false_eq_true, reduceCtorEq] at h))
        | (refine hK _ ?_; clear hK K Q1)
        | (refine hK _ _ rfl ?_; clear hK K; try refine go1 ?_)
        | (refine am_retP rfl ?_ rfl; first | refine go ?_ | rfl)
        | (refine am_retC [] rfl ?_ rfl rfl; first | refine go ?_ | rfl)
        | (refine wkq ?_)
        | (refine am_rs tabOk kOk rfl fun K Q1 hK => ?_; refine go1 ?_)
        | (refine am_ds mixed tabOk kOk rfl rfl fun K hK => ?_; refine go1 ?_)
        | (refine am_dreg mixed tabOk kOk rfl rfl fun K hK => ?_; refine go1 ?_)
      all_goals (clear hp hp0; simp only [TV.c.injEq, CV.t.injEq, Tree.v.injEq, Value.bool.injEq, incF] at *; grind)
    | succ d ih =>
      intro k la hk hf
      obtain ⟨e, hee⟩ : ∃ e, gr[k]? = some e := ⟨gr[k]'(by omega), List.getElem?_eq_getElem (by omega)⟩
      rw [incF_drop hee] at hf
      have hp := (show (gr.map iTr)[k]? = some (iTr e) ∧ IntKind.i64.wrap ((k : Int) + 1) = ((k + 1 : Nat) : Int) from ⟨by rw [List.getElem?_map, hee]; rfl, by rw [wrapN (by omega) (by omega)]; rfl⟩)
      simp only [iTr] at hp
      refine amR_succ ?_
      repeat' (fail_if_success (with_reducible apply amR_id)); first
        | (refine guardP_mk (fun h => ?_) (fun h => ?_) <;> (refine go1 ?_; try simp only [decide_eq_true_eq, decide_eq_false_iff_not, Bool.not_true, Bool.not_false, Bool.not_eq_true', Bool.not_eq_false', beq_iff_eq, bne_iff_ne, beq_eq_false_iff_ne, bne_eq_false_iff_eq, ne_eq, Bool.false_eq_true, reduceCtorEq] at h))
        | (refine hK _ ?_; clear hK K Q1)
        | (refine hK _ _ rfl ?_; clear hK K; try refine go1 ?_)
        | (refine am_retP rfl ?_ rfl; first | refine go ?_ | rfl)
        | (refine am_retC [] rfl ?_ rfl rfl; first | refine go ?_ | rfl)
        | (refine am_retB [(1, 1)] rfl ?_ ?_ rfl <;> first | refine go ?_ | rfl)
        | (refine wkq ?_)
        | (refine am_rs tabOk kOk rfl fun K Q1 hK => ?_; refine go1 ?_)
        | (refine am_ds mixed tabOk kOk rfl rfl fun K hK => ?_; refine go1 ?_)
        | (refine am_dreg mixed tabOk kOk rfl rfl fun K hK => ?_; refine go1 ?_)
      all_goals try (refine amR_tidy [(1, 1)] [1, 3, 14, 15, 16] 2 rfl ?_; refine go1 ?_; refine ih (k + 1) _ ?_ ?_)
      all_goals first | omega | (clear ih hp hp0; simp only [TV.c.injEq, CV.t.injEq, Tree.v.injEq, Value.bool.injEq]; grind) | (clear ih hp hp0; grind) | (clear ih hp hp0)
  · have hg : grF ⟨id, sz, el, be, te, vo, ro, le, co, no, de, he, log, gr, ne, ma, se, st⟩ = decide (gr.length = 0) := if_neg hr
    rw [hg]
    have hp := And.intro hp (show decide (ro = 1 ∨ ro = 2) = false from by simpa using hr)
    repeat' (fail_if_success (with_reducible apply amR_id)); first
      | (refine guardP_mk (fun h => ?_) (fun h => ?_) <;> (refine go1 ?_; try simp only [decide_eq_true_eq, decide_eq_false_iff_not, Bool.not_true, Bool.not_false, Bool.not_eq_true', Bool.not_eq_false', beq_iff_eq, bne_iff_ne, beq_eq_false_iff_ne, bne_eq_false_iff_eq, ne_eq, Bool.false_eq_true, reduceCtorEq] at h))
      | (refine hK _ ?_; clear hK K Q1)
      | (refine hK _ _ rfl ?_; clear hK K; try refine go1 ?_)
      | (refine am_retP rfl ?_ rfl; first | refine go ?_ | rfl)
      | (refine am_retC [] rfl ?_ rfl rfl; first | refine go ?_ | rfl)
      | (refine wkq ?_)
      | (refine am_rs tabOk kOk rfl fun K Q1 hK => ?_; refine go1 ?_)
      | (refine am_ds mixed tabOk kOk rfl rfl fun K hK => ?_; refine go1 ?_)
      | (refine am_dreg mixed tabOk kOk rfl rfl fun K hK => ?_; refine go1 ?_)
    all_goals (simp only [TV.c.injEq, CV.t.injEq, Tree.v.injEq, Value.bool.injEq]; clear hp; grind)
end Go.Proofs.YtgalnkilcajgcaaA
