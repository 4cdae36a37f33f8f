/- A new node: both programs make the same one. -/
import Derived.Test.YtgalnkilcajgcaaFStable3
namespace Go.Proofs.YtgalnkilcajgcaaA
open Go.Proofs
set_option autoImplicit false
set_option linter.unusedVariables false
set_option linter.unusedSimpArgs false
set_option maxRecDepth 4000
@[go_sem] theorem le_self (n : Nat) : (n ≤ n) = True := by simp
set_option maxHeartbeats 8000000 in
theorem entries_tc (l : List Ent) (hl : l.length ≤ 1048576) : TC Try.prog 139 [.c (.own 1 0 l.length)] [(1, .arr 198 7 (l.map Ent.tr))] 2 (.c (.own 2 0 l.length)) [(1, .arr 198 7 (l.map Ent.tr)), (2, .arr 198 7 (l.map Ent.tr))] 3 := by
  refine tc_intro Try.func139 rfl 20 rfl (Nat.le_of_ble_eq_true rfl) (by decide) [2] rfl dom1 ?_
  intro w0 E0
  have kOk := k13
  refine wk ?_
  refine am_tidy [(1, 1), (2, 2)] [0, 3, 4] 3 rfl ?_
  refine go ?_
  refine am_loop (l.length + 1) ?_
  suffices key : ∀ (d k : Nat), k + d = l.length → amR Try.prog _ _ _ (d + 1) ⟨[(0, .c (.own 1 0 l.length)), (3, .c (.own 2 0 k)), (4, int (k : Nat))], [(1, .arr 198 7 (l.map Ent.tr)), (2, .arr 198 7 ((l.take k).map Ent.tr))], 3⟩ from key l.length 0 (by simp)
  intro d
  induction d with
  | zero =>
    intro k hk
    refine amR_succ ?_
    refine wk ?_
    refine guardP_mk (fun h => ?_) (fun h => ?_)
    · simp at h; omega
    · refine go ?_
      refine wk ?_
      have hk' : k = l.length := hk
      subst hk'
      rw [List.take_length]
      refine am_retB [(1, 1), (2, 2)] rfl ?_ ?_ rfl <;> first | refine go ?_ | rfl
  | succ d ih =>
    intro k hk
    obtain ⟨e, he⟩ : ∃ e, l[k]? = some e := ⟨l[k]'(by omega), List.getElem?_eq_getElem (by omega)⟩
    have hp := (show (l.map Ent.tr)[k]? = some e.tr ∧ IntKind.i64.wrap ((k : Int) + 1) = ((k + 1 : Nat) : Int) ∧ (k < l.length) = True ∧ (k ≤ ((l.take k).map Ent.tr).length) = True ∧ ((l.take k).map Ent.tr).take k = (l.take k).map Ent.tr ∧ (l.take k).map Ent.tr ++ [e.tr] = (l.take (k + 1)).map Ent.tr ∧ ((l.take k).map Ent.tr).length = k from
      ⟨by rw [List.getElem?_map, he]; rfl, by rw [wrapN (by omega) (by omega)]; rfl, eq_true (by omega), eq_true (by simp; omega), List.take_of_length_le (by simp; omega), by rw [List.take_add_one, he]; simp, by simp; omega⟩)
    obtain ⟨t, ⟨a, b, o, x, y, z⟩⟩ := e
    simp only [Ent.tr] at hp
    refine amR_succ ?_
    refine wk1 ?_
    refine guardP_mk (fun h => ?_) (fun h => ?_)
    · refine go1 ?_
      refine wk1 ?_
      refine am_reg tabOk kOk rfl fun K Q1 hK => ?_
      refine go1 ?_
      refine ⟨by omega, by unfold maxLen; omega, ?_⟩
      refine hK _ ?_
      clear hK K Q1
      refine go1 ?_
      refine wk1 ?_
      refine amR_tidy [(1, 1), (4, 2)] [0, 3, 4] 3 rfl ?_
      refine go1 ?_
      exact ih (k + 1) (by omega)
    · simp at h; omega
def kn18_0_1 (n : Nat) (l : List Ent) : CB := if n = l.length ∧ l.length ≤ 1048576 then some (.c (.own 2 0 l.length), [(1, .arr 198 7 (l.map Ent.tr)), (2, .arr 198 7 (l.map Ent.tr))], 3) else none
def kn18_0_0 (n : Nat) (r0 : List (List Tree)) : CB := (unEnts r0).bind (kn18_0_1 n)
def kn18_0 : List TV → List (Nat × AObj) → CB
  | [.c (.own 1 0 n)], [(1, .arr 198 7 r0)] => kn18_0_0 n r0
  | _, _ => none
def kn18_call (f : FuncId) (args : List TV) (o : List (Nat × AObj)) : CB := if f = 139 then orO (kn18_0 args o) (kn17.callB f args o) else kn17.callB f args o
def kn18 : Kn := { call := kn17.call, eqs := eqTys, callB := kn18_call }
attribute [go_sem] kn18_0_0 kn18_0_1 kn18_0 kn18_call kn18
theorem kn18_ok : ∀ f args o res o1 n1, kn18_call f args o = some (res, o1, n1) → TC Try.prog f args o (o.length + 1) res o1 n1 := by
  intro f args o res o1 n1 h
  unfold kn18_call at h
  split at h
  · rename_i e; subst e
    have hh := orO_elim h
    clear h
    rcases hh with h | h
    rotate_left
    · exact k17.callB _ _ _ _ _ _ h
    unfold kn18_0 at h
    split at h
    · rename_i n r0; unfold kn18_0_0 at h
      have hb0 := Option.bind_eq_some_iff.1 h
      clear h
      obtain ⟨l, e0, h⟩ := hb0
      unfold kn18_0_1 at h
      split at h
      · rename_i hc; cases h; rw [unEnts_ok e0]; obtain ⟨rfl, h1⟩ := hc; exact entries_tc l h1
      · cases h
    · cases h
  · exact k17.callB f args o res o1 n1 h
theorem k18 : KnOk Try.prog kn18 := ⟨k17.call, eqTysOk, kn18_ok⟩
def kn19_0_0 (e : Int) (d : Int) : Option TV := some (int (toF e d))
def kn19_0 : List TV → Option TV
  | [.c (.t (.v (.int .i64 e))), .c (.t (.v (.int .i64 d)))] => kn19_0_0 e d
  | _ => none
def kn19_1_0 (e : Int) (d : Int) : Option TV := some (int (toF e d))
def kn19_1 : List TV → Option TV
  | [.c (.t (.v (.int .i64 e))), .c (.t (.v (.int .i64 d)))] => kn19_1_0 e d
  | _ => none
def kn19_call (f : FuncId) (args : List TV) : Option TV := if f = 144 then orO (kn19_0 args) (kn18.call f args) else if f = 140 then orO (kn19_1 args) (kn18.call f args) else kn18.call f args
def kn19 : Kn := { call := kn19_call, eqs := eqTys, callB := kn18.callB }
attribute [go_sem] kn19_0_0 kn19_0 kn19_1_0 kn19_1 kn19_call kn19
theorem kn19_ok : ∀ f args res, kn19_call f args = some res → TC Try.prog f args [] 1 res [] 1 := by
  intro f args res h
  unfold kn19_call at h
  split at h
  · rename_i e; subst e
    have hh := orO_elim h
    clear h
    rcases hh with h | h
    rotate_left
    · exact k18.call _ _ _ h
    unfold kn19_0 at h
    split at h
    · rename_i e d; unfold kn19_0_0 at h
      cases h; exact toI_tc e d
    · cases h
  split at h
  · rename_i e; subst e
    have hh := orO_elim h
    clear h
    rcases hh with h | h
    rotate_left
    · exact k18.call _ _ _ h
    unfold kn19_1 at h
    split at h
    · rename_i e d; unfold kn19_1_0 at h
      cases h; exact toS_tc e d
    · cases h
  · exact k18.call f args res h
theorem k19 : KnOk Try.prog kn19 := ⟨kn19_ok, eqTysOk, k18.callB⟩
/-- The cells of a new node, its log told as x. -/
def nnC (id sz el be te vo ro le co no de he : Int) (x : CV) : List CV := [ci id, ci sz, ci el, ci be, ci te, ci vo, ci ro, ci le, ci co, ci no, ci de, ci he, x, litC (.slice none 0 0), litC (.slice none 0 0), litC (.slice none 0 0), litC (.slice none 0 0), litC (.slice none 0 0)]
def newOk (a b c d : Int) (s : Stb) : Bool := conF a b c d && stF s && decide (s.vote ≤ b)
abbrev NR := TV × List (Nat × AObj) × Nat
def newR (a b c d : Int) (s : Stb) (dr : Int) : NR :=
  if newOk a b c d s = true then (.agg (nnC a b c d s.term s.vote 0 0 0 0 (toF c dr) 0 (.own 2 0 s.log.length)), [(1, .arr 198 7 (s.log.map Ent.tr)), (2, .arr 198 7 (s.log.map Ent.tr))], 3)
  else (.agg (nnC 0 0 0 0 0 0 0 0 0 0 0 0 (litC (.slice none 0 0))), [(1, .arr 198 7 (s.log.map Ent.tr))], 2)
attribute [go_sem] nnC litC
set_option maxHeartbeats 16000000 in
theorem newI_tc (a b c d : Int) (s : Stb) (dr : Int) (hl : s.log.length ≤ 1048576) : TC Try.prog 48 [int a, int b, int c, int d, .agg [ci s.term, ci s.vote, .own 1 0 s.log.length], int dr] [(1, .arr 198 7 (s.log.map Ent.tr))] 2 (newR a b c d s dr).1 (newR a b c d s dr).2.1 (newR a b c d s dr).2.2 := by
  obtain ⟨t, v, l⟩ := s
  have hl' : l.length ≤ 1048576 := hl
  by_cases hk : newOk a b c d ⟨t, v, l⟩ = true
  · have e : newR a b c d ⟨t, v, l⟩ dr = _ := if_pos hk
    rw [e]
    simp only [newOk, Bool.and_eq_true, decide_eq_true_eq] at hk
    obtain ⟨⟨h1, h2⟩, h3⟩ := hk
    simp only [nnC]
    refine tc_cell tabOk Try.func48 rfl 46 rfl (Nat.le_of_ble_eq_true rfl) (by decide) [(12, some 88)] rfl dom1 ?_
    intro w0 E0
    have kOk := k19
    have hp : conF a b c d = true ∧ stF ⟨t, v, l⟩ = true ∧ (v ≤ b) = True ∧ (v > b) = False ∧ (l.length ≤ 1048576) = True := ⟨h1, h2, eq_true h3, eq_false (by omega), eq_true hl'⟩
    refine wk1 ?_
    refine am_retC [(1, 1), (4, 2)] rfl ?_ rfl rfl
    first | refine go ?_ | rfl
  · have e : newR a b c d ⟨t, v, l⟩ dr = _ := if_neg hk
    rw [e]
    simp only [newOk, Bool.and_eq_true, decide_eq_true_eq] at hk
    simp only [nnC]
    refine tc_cell tabOk Try.func48 rfl 46 rfl (Nat.le_of_ble_eq_true rfl) (by decide) [(12, some 88)] rfl dom1 ?_
    intro w0 E0
    have kOk := k19
    have hp : (l.length ≤ 1048576) = True := eq_true hl'
    repeat' first
      | (refine guardP_mk (fun h => ?_) (fun h => ?_) <;> (refine go1 ?_; try simp only [decide_eq_true_eq, decide_eq_false_iff_not, Bool.not_true, Bool.not_false, Bool.not_eq_true', Bool.not_eq_false', beq_iff_eq, bne_iff_ne, beq_eq_false_iff_ne, bne_eq_false_iff_eq, ne_eq, Bool.false_eq_true, reduceCtorEq] at h))
      | (refine hK _ ?_; clear hK K Q1)
      | (refine hK _ _ rfl ?_; clear hK K; try refine go1 ?_)
      | (refine am_retC [(1, 1)] rfl ?_ rfl rfl; first | refine go ?_ | rfl)
      | (refine am_retB [(1, 1)] rfl ?_ ?_ rfl <;> first | refine go ?_ | rfl)
      | (refine wkq ?_)
      | (refine am_rs tabOk kOk rfl fun K Q1 hK => ?_; refine go1 ?_)
      | (refine am_ds mixed tabOk kOk rfl rfl fun K hK => ?_; refine go1 ?_)
      | (refine am_dreg mixed tabOk kOk rfl rfl fun K hK => ?_; refine go1 ?_)
    all_goals (exfalso; clear hp e; grind)
set_option maxHeartbeats 16000000 in
theorem newS_tc (a b c d : Int) (s : Stb) (dr : Int) (hl : s.log.length ≤ 1048576) : TC Try.prog 46 [int a, int b, int c, int d, .agg [ci s.term, ci s.vote, .own 1 0 s.log.length], int dr] [(1, .arr 198 7 (s.log.map Ent.tr))] 2 (newR a b c d s dr).1 (newR a b c d s dr).2.1 (newR a b c d s dr).2.2 := by
  obtain ⟨t, v, l⟩ := s
  have hl' : l.length ≤ 1048576 := hl
  by_cases hk : newOk a b c d ⟨t, v, l⟩ = true
  · have e : newR a b c d ⟨t, v, l⟩ dr = _ := if_pos hk
    rw [e]
    simp only [newOk, Bool.and_eq_true, decide_eq_true_eq] at hk
    obtain ⟨⟨h1, h2⟩, h3⟩ := hk
    simp only [nnC]
    refine tc_cell tabOk Try.func46 rfl 46 rfl (Nat.le_of_ble_eq_true rfl) (by decide) [(12, some 88)] rfl dom1 ?_
    intro w0 E0
    have kOk := k19
    have hp : conF a b c d = true ∧ stF ⟨t, v, l⟩ = true ∧ (v ≤ b) = True ∧ (v > b) = False ∧ (l.length ≤ 1048576) = True := ⟨h1, h2, eq_true h3, eq_false (by omega), eq_true hl'⟩
    refine wk1 ?_
    refine am_retC [(1, 1), (4, 2)] rfl ?_ rfl rfl
    first | refine go ?_ | rfl
  · have e : newR a b c d ⟨t, v, l⟩ dr = _ := if_neg hk
    rw [e]
    simp only [newOk, Bool.and_eq_true, decide_eq_true_eq] at hk
    simp only [nnC]
    refine tc_cell tabOk Try.func46 rfl 46 rfl (Nat.le_of_ble_eq_true rfl) (by decide) [(12, some 88)] rfl dom1 ?_
    intro w0 E0
    have kOk := k19
    have hp : (l.length ≤ 1048576) = True := eq_true hl'
    repeat' first
      | (refine guardP_mk (fun h => ?_) (fun h => ?_) <;> (refine go1 ?_; try simp only [decide_eq_true_eq, decide_eq_false_iff_not, Bool.not_true, Bool.not_false, Bool.not_eq_true', Bool.not_eq_false', beq_iff_eq, bne_iff_ne, beq_eq_false_iff_ne, bne_eq_false_iff_eq, ne_eq, Bool.false_eq_true, reduceCtorEq] at h))
      | (refine hK _ ?_; clear hK K Q1)
      | (refine hK _ _ rfl ?_; clear hK K; try refine go1 ?_)
      | (refine am_retC [(1, 1)] rfl ?_ rfl rfl; first | refine go ?_ | rfl)
      | (refine am_retB [(1, 1)] rfl ?_ ?_ rfl <;> first | refine go ?_ | rfl)
      | (refine wkq ?_)
      | (refine am_rs tabOk kOk rfl fun K Q1 hK => ?_; refine go1 ?_)
      | (refine am_ds mixed tabOk kOk rfl rfl fun K hK => ?_; refine go1 ?_)
      | (refine am_dreg mixed tabOk kOk rfl rfl fun K hK => ?_; refine go1 ?_)
    all_goals (exfalso; clear hp e; grind)
end Go.Proofs.YtgalnkilcajgcaaA
