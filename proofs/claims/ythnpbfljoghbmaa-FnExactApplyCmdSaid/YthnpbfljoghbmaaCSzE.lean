/- Sizes of rows of entries. -/
import Derived.Test.YthnpbfljoghbmaaCEnt
namespace Go.Proofs.YthnpbfljoghbmaaA
open Go.Proofs
set_option autoImplicit false
set_option linter.unusedVariables false
set_option linter.unusedSimpArgs false
set_option maxRecDepth 4000
def szE (e : Ent) (s : Int) : Int := if szCmF e.m s < 0 then -1 else szCmF e.m s
def szGo : List Ent → Int → Int
  | [], s => s
  | e :: l, s => if szE e s < 0 then -1 else szGo l (szE e s)
def szEsF (l : List Ent) (left : Int) : Int := if IntKind.i64.wrap (left - l.length) < 0 then -1 else szGo l (IntKind.i64.wrap (left - l.length))
theorem szGo_drop {l : List Ent} {k : Nat} {e : Ent} (h : l[k]? = some e) (s : Int) : szGo (l.drop k) s = if szE e s < 0 then -1 else szGo (l.drop (k + 1)) (szE e s) := by
  have hk := (List.getElem?_eq_some_iff.1 h).1
  rw [List.drop_eq_getElem_cons hk]
  have : l[k] = e := by rw [List.getElem?_eq_getElem hk] at h; exact Option.some.inj h
  simp only [szGo, this]
set_option maxHeartbeats 8000000 in
theorem szEs_tc (l : List Ent) (left : Int) (hl : l.length ≤ maxLen) : TC Try.prog 42 [ro 7 (l.map Ent.tr), int left] [] 1 (int (szEsF l left)) [] 1 := by
  refine tc_intro Try.func42 rfl 27 rfl (Nat.le_of_ble_eq_true rfl) (by decide) [4] rfl (by intro id x h; cases h) ?_
  intro w0 E0
  have kOk := k13
  unfold maxLen at hl
  have hp : (l.map Ent.tr).length = l.length := by simp
  refine wk1 ?_
  refine guardP_mk (fun h => ?_) (fun h => ?_)
  · refine go1 ?_
    refine wk1 ?_
    refine am_retP rfl ?_ rfl
    refine go ?_
    simp only [decide_eq_true_eq] at h
    simp only [szEsF, if_pos h]
  simp only [Bool.not_true, decide_eq_false_iff_not] at h
  have hs : szEsF l left = szGo l (IntKind.i64.wrap (left - l.length)) := by simp only [szEsF, if_neg h]
  rw [hs]
  refine go1 ?_
  refine wk1 ?_
  refine am_tidy [] [0, 1, 5] 1 rfl ?_
  refine go1 ?_
  clear hp
  refine am_loop (l.length + 1) ?_
  suffices key : ∀ (d k : Nat) (s : Int), k + d = l.length → szGo (l.drop k) s = szGo l (IntKind.i64.wrap (left - l.length)) → amR Try.prog _ _ _ (d + 1) ⟨[(0, ro 7 (l.map Ent.tr)), (1, int s), (5, int (k : Nat))], [], 1⟩ from key l.length 0 _ (by simp) rfl
  intro d
  induction d with
  | zero =>
    intro k s hk hf
    have hp : (l.map Ent.tr).length = l.length := by simp
    rw [List.drop_eq_nil_of_le (by omega)] at hf
    refine amR_succ ?_
    repeat' (fail_if_success (with_reducible apply amR_id)); first
      | (refine guardP_mk (fun h => ?_) (fun h => ?_) <;> (refine go1 ?_; try simp only [decide_eq_true_eq, decide_eq_false_iff_not, Bool.not_true, Bool.not_false, Bool.not_eq_true', Bool.not_eq_false', beq_iff_eq, bne_iff_ne, beq_eq_false_iff_ne, bne_eq_false_iff_eq, ne_eq, Bool.false_eq_true, reduceCtorEq] at h))
      | (refine hK _ ?_; clear hK K Q1)
      | (refine ⟨by first | omega | (simp only [List.length_map, List.length_append, List.length_cons, List.length_nil, List.length_replicate, List.length_drop, List.length_take]; omega), by unfold maxLen; first | omega | (simp only [List.length_map, List.length_append, List.length_cons, List.length_nil, List.length_replicate, List.length_drop, List.length_take]; omega), ?_⟩)
      | (refine hK _ _ rfl ?_; clear hK K; try refine go1 ?_)
      | (refine am_retP rfl ?_ rfl; first | refine go ?_ | rfl)
      | (refine am_retC [] rfl ?_ rfl rfl; first | refine go ?_ | rfl)
      | (refine wkq ?_)
      | (refine am_rs tabOk kOk rfl fun K Q1 hK => ?_; refine go1 ?_)
      | (refine am_reg tabOk kOk rfl fun K Q1 hK => ?_; refine go1 ?_)
      | (refine am_ds mixed tabOk kOk rfl rfl fun K hK => ?_; refine go1 ?_)
      | (refine am_dreg mixed tabOk kOk rfl rfl fun K hK => ?_; refine go1 ?_)
    all_goals first | (exfalso; omega) | (rw [← hf]; rfl)
  | succ d ih =>
    intro k s hk hf
    obtain ⟨e, he⟩ : ∃ e, l[k]? = some e := ⟨l[k]'(by omega), List.getElem?_eq_getElem (by omega)⟩
    rw [szGo_drop he] at hf
    have hp := (show (l.map Ent.tr).length = l.length ∧ (l.map Ent.tr)[k]? = some e.tr ∧ IntKind.i64.wrap ((k : Int) + 1) = ((k + 1 : Nat) : Int) from ⟨by simp, by rw [List.getElem?_map, he]; rfl, by rw [wrapN (by omega) (by omega)]; rfl⟩)
    have hz : szE e s = if szCmF e.m s < 0 then -1 else szCmF e.m s := rfl
    obtain ⟨t, ⟨a, b, o, x, y, z⟩⟩ := e
    simp only [Ent.tr] at hp
    refine amR_succ ?_
    repeat' (fail_if_success (with_reducible apply amR_id)); first
      | (refine guardP_mk (fun h => ?_) (fun h => ?_) <;> (refine go1 ?_; try simp only [decide_eq_true_eq, decide_eq_false_iff_not, Bool.not_true, Bool.not_false, Bool.not_eq_true', Bool.not_eq_false', beq_iff_eq, bne_iff_ne, beq_eq_false_iff_ne, bne_eq_false_iff_eq, ne_eq, Bool.false_eq_true, reduceCtorEq] at h))
      | (refine hK _ ?_; clear hK K Q1)
      | (refine ⟨by first | omega | (simp only [List.length_map, List.length_append, List.length_cons, List.length_nil, List.length_replicate, List.length_drop, List.length_take]; omega), by unfold maxLen; first | omega | (simp only [List.length_map, List.length_append, List.length_cons, List.length_nil, List.length_replicate, List.length_drop, List.length_take]; omega), ?_⟩)
      | (refine hK _ _ rfl ?_; clear hK K; try refine go1 ?_)
      | (refine am_retP rfl ?_ rfl; first | refine go ?_ | rfl)
      | (refine am_retC [] rfl ?_ rfl rfl; first | refine go ?_ | rfl)
      | (refine wkq ?_)
      | (refine am_rs tabOk kOk rfl fun K Q1 hK => ?_; refine go1 ?_)
      | (refine am_reg tabOk kOk rfl fun K Q1 hK => ?_; refine go1 ?_)
      | (refine am_ds mixed tabOk kOk rfl rfl fun K hK => ?_; refine go1 ?_)
      | (refine am_dreg mixed tabOk kOk rfl rfl fun K hK => ?_; refine go1 ?_)
    all_goals try (refine amR_tidy [] [0, 1, 5] 1 rfl ?_; refine go1 ?_; refine ih (k + 1) _ ?_ ?_)
    all_goals first | omega | (clear ih hp; simp only [TV.c.injEq, CV.t.injEq, Tree.v.injEq, Value.int.injEq, true_and]; rw [← hf]; simp only [szE] at *; grind) | (clear ih hp; simp only [szE] at *; grind) | (clear ih hp)
theorem szEs_len {l : List Ent} (h : l.length ≤ maxLen) (h2 : ¬ szEsF l 1048576 < 0) : l.length ≤ 1048576 := by
  unfold maxLen at h
  unfold szEsF at h2
  split at h2
  · omega
  · rename_i h3
    rw [IntKind.wrap_i64] at h3
    omega
end Go.Proofs.YthnpbfljoghbmaaA
