/- What is kept of a node: the laws' functions for it, and when it is well-formed. -/
import Derived.Test.YtaolgdpkcbfocaaFStable
namespace Go.Proofs.YtaolgdpkcbfocaaA
open Go.Proofs
set_option autoImplicit false
set_option linter.unusedVariables false
set_option linter.unusedSimpArgs false
set_option maxRecDepth 4000
def szE (e : Ent) (s : Int) : Int := if szCmF e.m s < 0 then -1 else szCmF e.m s
def szGo : List Ent → Int → Int
  | [], s => s
  | e :: l, s => if szE e s < 0 then -1 else szGo l (szE e s)
def szEsF (l : List Ent) (left : Int) : Int := if IntKind.i64.wrap (left - l.length) < 0 then -1 else szGo l (IntKind.i64.wrap (left - l.length))
theorem szGo_drop {l : List Ent} {k : Nat} {e : Ent} (h : l[k]? = some e) (s : Int) : szGo (l.drop k) s = if szE e s < 0 then -1 else szGo (l.drop (k + 1)) (szE e s) := by
  have hk := (List.getElem?_eq_some_iff.1 h).1
  rw [List.drop_eq_getElem_cons hk]
  have : l[k] = e := by rw [List.getElem?_eq_getElem hk] at h; exact Option.some.inj h
  simp only [szGo, this]
set_option maxHeartbeats 8000000 in
theorem szEs_tc (l : List Ent) (left : Int) (hl : l.length ≤ maxLen) : TC Try.prog 40 [ro 7 (l.map Ent.tr), int left] [] 1 (int (szEsF l left)) [] 1 := by
  refine tc_intro Try.func40 rfl 27 rfl (Nat.le_of_ble_eq_true rfl) (by decide) [4] rfl (by intro id x h; cases h) ?_
  intro w0 E0
  have kOk := k13
  unfold maxLen at hl
  have hp : (l.map Ent.tr).length = l.length := by simp
  refine wk1 ?_
  refine guardP_mk (fun h => ?_) (fun h => ?_)
  · refine go1 ?_
    refine wk1 ?_
    refine am_retP rfl ?_ rfl
    refine go ?_
    simp only [decide_eq_true_eq] at h
    simp only [szEsF, if_pos h]
  simp only [Bool.not_true, decide_eq_false_iff_not] at h
  have hs : szEsF l left = szGo l (IntKind.i64.wrap (left - l.length)) := by simp only [szEsF, if_neg h]
  rw [hs]
  refine go1 ?_
  refine wk1 ?_
  refine am_tidy [] [0, 1, 5] 1 rfl ?_
  refine go1 ?_
  clear hp
  refine am_loop (l.length + 1) ?_
  suffices key : ∀ (d k : Nat) (s : Int), k + d = l.length → szGo (l.drop k) s = szGo l (IntKind.i64.wrap (left - l.length)) → amR Try.prog _ _ _ (d + 1) ⟨[(0, ro 7 (l.map Ent.tr)), (1, int s), (5, int (k : Nat))], [], 1⟩ from key l.length 0 _ (by simp) rfl
  intro d
  induction d with
  | zero =>
    intro k s hk hf
    have hp : (l.map Ent.tr).length = l.length := by simp
    rw [List.drop_eq_nil_of_le (by omega)] at hf
    refine amR_succ ?_
    repeat' (fail_if_success (with_reducible apply amR_id)); first
      | (refine guardP_mk (fun h => ?_) (fun h => ?_) <;> (refine go1 ?_; try simp only [decide_eq_true_eq, decide_eq_false_iff_not, Bool.not_true, Bool.not_false, Bool.not_eq_true', Bool.not_eq_false', beq_iff_eq, bne_iff_ne, beq_eq_false_iff_ne, bne_eq_false_iff_eq, ne_eq, Bool.false_eq_true, reduceCtorEq] at h))
      | (refine hK _ ?_; clear hK K Q1)
      | (refine ⟨by first | omega | (simp only [List.length_map, List.length_append, List.length_cons, List.length_nil, List.length_replicate, List.length_drop, List.length_take]; omega), by unfold maxLen; first | omega | (simp only [List.length_map, List.length_append, List.length_cons, List.length_nil, List.length_replicate, List.length_drop, List.length_take]; omega), ?_⟩)
      | (refine hK _ _ rfl ?_; clear hK K; try refine go1 ?_)
      | (refine am_retP rfl ?_ rfl; first | refine go ?_ | rfl)
      | (refine am_retC [] rfl ?_ rfl rfl; first | refine go ?_ | rfl)
      | (refine wkq ?_)
      | (refine am_rs tabOk kOk rfl fun K Q1 hK => ?_; refine go1 ?_)
      | (refine am_ds mixed tabOk kOk rfl rfl fun K hK => ?_; refine go1 ?_)
      | (refine am_dreg mixed tabOk kOk rfl rfl fun K hK => ?_; refine go1 ?_)
    all_goals first | (exfalso; omega) | (rw [← hf]; rfl)
  | succ d ih =>
    intro k s hk hf
    obtain ⟨e, he⟩ : ∃ e, l[k]? = some e := ⟨l[k]'(by omega), List.getElem?_eq_getElem (by omega)⟩
    rw [szGo_drop he] at hf
    have hp := (show (l.map Ent.tr).length = l.length ∧ (l.map Ent.tr)[k]? = some e.tr ∧ IntKind.i64.wrap ((k : Int) + 1) = ((k + 1 : Nat) : Int) from ⟨by simp, by rw [List.getElem?_map, he]; rfl, by rw [wrapN (by omega) (by omega)]; rfl⟩)
    have hz : szE e s = if szCmF e.m s < 0 then -1 else szCmF e.m s := rfl
    obtain ⟨t, ⟨a, b, o, x, y, z⟩⟩ := e
    simp only [Ent.tr] at hp
    refine amR_succ ?_
    repeat' (fail_if_success (with_reducible apply amR_id)); first
      | (refine guardP_mk (fun h => ?_) (fun h => ?_) <;> (refine go1 ?_; try simp only [decide_eq_true_eq, decide_eq_false_iff_not, Bool.not_true, Bool.not_false, Bool.not_eq_true', Bool.not_eq_false', beq_iff_eq, bne_iff_ne, beq_eq_false_iff_ne, bne_eq_false_iff_eq, ne_eq, Bool.false_eq_true, reduceCtorEq] at h))
      | (refine hK _ ?_; clear hK K Q1)
      | (refine ⟨by first | omega | (simp only [List.length_map, List.length_append, List.length_cons, List.length_nil, List.length_replicate, List.length_drop, List.length_take]; omega), by unfold maxLen; first | omega | (simp only [List.length_map, List.length_append, List.length_cons, List.length_nil, List.length_replicate, List.length_drop, List.length_take]; omega), ?_⟩)
      | (refine hK _ _ rfl ?_; clear hK K; try refine go1 ?_)
      | (refine am_retP rfl ?_ rfl; first | refine go ?_ | rfl)
      | (refine am_retC [] rfl ?_ rfl rfl; first | refine go ?_ | rfl)
      | (refine wkq ?_)
      | (refine am_rs tabOk kOk rfl fun K Q1 hK => ?_; refine go1 ?_)
      | (refine am_ds mixed tabOk kOk rfl rfl fun K hK => ?_; refine go1 ?_)
      | (refine am_dreg mixed tabOk kOk rfl rfl fun K hK => ?_; refine go1 ?_)
    all_goals try (refine amR_tidy [] [0, 1, 5] 1 rfl ?_; refine go1 ?_; refine ih (k + 1) _ ?_ ?_)
    all_goals first | omega | (clear ih hp; simp only [TV.c.injEq, CV.t.injEq, Tree.v.injEq, Value.int.injEq, true_and]; rw [← hf]; simp only [szE] at *; grind) | (clear ih hp; simp only [szE] at *; grind) | (clear ih hp)
structure Stb where
  term : Int
  vote : Int
  log : List Ent
def Stb.cv (c : Stb) : List CV := [ci c.term, ci c.vote, .t (.sl 7 (c.log.map Ent.tr))]
deriving instance DecidableEq for Stb
def unStb : List CV → Option Stb
  | [.t (.v (.int .i64 t)), .t (.v (.int .i64 v)), .t (.sl 7 xs)] => (unEnts xs).map (Stb.mk t v)
  | _ => none
theorem unStb_ok {xs : List CV} {c : Stb} (h : unStb xs = some c) : xs = c.cv := by
  unfold unStb at h
  split at h
  · rename_i t v ys
    cases hy : unEnts ys with
    | none => rw [hy] at h; cases h
    | some l => rw [hy] at h; cases h; rw [unEnts_ok hy]; rfl
  · cases h
attribute [go_sem] unStb Stb.cv
def kn14_0_1 (n : Int) (l : List Ent) : Option TV := if l.length ≤ maxLen then some (int (szEsF l n)) else none
def kn14_0_0 (n : Int) (r0 : List (List Tree)) : Option TV := (unEnts r0).bind (kn14_0_1 n)
def kn14_0 : List TV → Option TV
  | [.c (.t (.sl 7 r0)), .c (.t (.v (.int .i64 n)))] => kn14_0_0 n r0
  | _ => none
def kn14_1_2 (l : List Ent) (r : List Ent) : Option TV := if l.length ≤ 1048576 then some (bool (decide (l = r))) else none
def kn14_1_1 (r1 : List (List Tree)) (l : List Ent) : Option TV := (unEnts r1).bind (kn14_1_2 l)
def kn14_1_0 (r0 : List (List Tree)) (r1 : List (List Tree)) : Option TV := (unEnts r0).bind (kn14_1_1 r1)
def kn14_1 : List TV → Option TV
  | [.c (.t (.sl 7 r0)), .c (.t (.sl 7 r1))] => kn14_1_0 r0 r1
  | _ => none
def kn14_2_1 (a : Int) (b : Int) (l : List Ent) : Option TV := if l.length ≤ 1048576 then some (bool (risF l a b)) else none
def kn14_2_0 (a : Int) (b : Int) (r0 : List (List Tree)) : Option TV := (unEnts r0).bind (kn14_2_1 a b)
def kn14_2 : List TV → Option TV
  | [.c (.t (.sl 7 r0)), .c (.t (.v (.int .i64 a))), .c (.t (.v (.int .i64 b)))] => kn14_2_0 a b r0
  | _ => none
def kn14_3_1 (a : Int) (b : Int) (l : List Ent) : Option TV := if l.length ≤ 1048576 then some (bool (risF l a b)) else none
def kn14_3_0 (a : Int) (b : Int) (r0 : List (List Tree)) : Option TV := (unEnts r0).bind (kn14_3_1 a b)
def kn14_3 : List TV → Option TV
  | [.c (.t (.sl 7 r0)), .c (.t (.v (.int .i64 a))), .c (.t (.v (.int .i64 b)))] => kn14_3_0 a b r0
  | _ => none
def kn14_4_1 (k : Int) (l : List Ent) : Option TV := if l = mkEs l.length k ∧ 0 ≤ k ∧ k + 7 * (l.length : Nat) ≤ 1099511627776 then some (int (k + 7 * (l.length : Nat))) else none
def kn14_4_0 (k : Int) (r0 : List (List Tree)) : Option TV := (unEnts r0).bind (kn14_4_1 k)
def kn14_4 : List TV → Option TV
  | [.c (.t (.sl 7 r0)), .c (.t (.v (.int .i64 k)))] => kn14_4_0 k r0
  | _ => none
def kn14_call (f : FuncId) (args : List TV) : Option TV := if f = 40 then orO (kn14_0 args) (kn13.call f args) else if f = 47 then orO (kn14_1 args) (kn13.call f args) else if f = 75 then orO (kn14_2 args) (kn13.call f args) else if f = 72 then orO (kn14_3 args) (kn13.call f args) else if f = 59 then orO (kn14_4 args) (kn13.call f args) else kn13.call f args
def kn14 : Kn := { call := kn14_call, eqs := eqTys, callB := kn13.callB }
attribute [go_sem] kn14_0_0 kn14_0_1 kn14_0 kn14_1_0 kn14_1_1 kn14_1_2 kn14_1 kn14_2_0 kn14_2_1 kn14_2 kn14_3_0 kn14_3_1 kn14_3 kn14_4_0 kn14_4_1 kn14_4 kn14_call kn14
theorem kn14_ok : ∀ f args res, kn14_call f args = some res → TC Try.prog f args [] 1 res [] 1 := by
  intro f args res h
  unfold kn14_call at h
  split at h
  · rename_i e; subst e
    have hh := orO_elim h
    clear h
    rcases hh with h | h
    rotate_left
    · exact k13.call _ _ _ h
    unfold kn14_0 at h
    split at h
    · rename_i r0 n; unfold kn14_0_0 at h
      obtain ⟨l, e0, h⟩ := Option.bind_eq_some_iff.1 h
      unfold kn14_0_1 at h
      split at h
      · rename_i hc; cases h; rw [unEnts_ok e0]; exact szEs_tc l n hc
      · cases h
    · cases h
  split at h
  · rename_i e; subst e
    have hh := orO_elim h
    clear h
    rcases hh with h | h
    rotate_left
    · exact k13.call _ _ _ h
    unfold kn14_1 at h
    split at h
    · rename_i r0 r1; unfold kn14_1_0 at h
      obtain ⟨l, e0, h⟩ := Option.bind_eq_some_iff.1 h
      unfold kn14_1_1 at h
      obtain ⟨r, e1, h⟩ := Option.bind_eq_some_iff.1 h
      unfold kn14_1_2 at h
      split at h
      · rename_i hc; cases h; rw [unEnts_ok e0, unEnts_ok e1]; exact eqEnts_tc l r hc
      · cases h
    · cases h
  split at h
  · rename_i e; subst e
    have hh := orO_elim h
    clear h
    rcases hh with h | h
    rotate_left
    · exact k13.call _ _ _ h
    unfold kn14_2 at h
    split at h
    · rename_i r0 a b; unfold kn14_2_0 at h
      obtain ⟨l, e0, h⟩ := Option.bind_eq_some_iff.1 h
      unfold kn14_2_1 at h
      split at h
      · rename_i hc; cases h; rw [unEnts_ok e0]; exact risI_tc l a b hc
      · cases h
    · cases h
  split at h
  · rename_i e; subst e
    have hh := orO_elim h
    clear h
    rcases hh with h | h
    rotate_left
    · exact k13.call _ _ _ h
    unfold kn14_3 at h
    split at h
    · rename_i r0 a b; unfold kn14_3_0 at h
      obtain ⟨l, e0, h⟩ := Option.bind_eq_some_iff.1 h
      unfold kn14_3_1 at h
      split at h
      · rename_i hc; cases h; rw [unEnts_ok e0]; exact risS_tc l a b hc
      · cases h
    · cases h
  split at h
  · rename_i e; subst e
    have hh := orO_elim h
    clear h
    rcases hh with h | h
    rotate_left
    · exact k13.call _ _ _ h
    unfold kn14_4 at h
    split at h
    · rename_i r0 k; unfold kn14_4_0 at h
      obtain ⟨l, e0, h⟩ := Option.bind_eq_some_iff.1 h
      unfold kn14_4_1 at h
      split at h
      · rename_i hc; cases h; rw [unEnts_ok e0]; exact (by rw [hc.1]; rw [mkEs_len]; exact heldEs_tc l.length k hc.2.1 hc.2.2)
      · cases h
    · cases h
  · exact k13.call f args res h
theorem k14 : KnOk Try.prog kn14 := ⟨kn14_ok, eqTysOk, k13.callB⟩
end Go.Proofs.YtaolgdpkcbfocaaA
