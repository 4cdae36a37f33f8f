/- Tables as the reference has them: copied; the client's session; the key's value. -/
import Derived.Test.YthnpbfljoghbmaaCChg
import Derived.Test.YthnpbfljoghbmaaAmFrz2
namespace Go.Proofs.YthnpbfljoghbmaaA
open Go.Proofs
set_option autoImplicit false
set_option linter.unusedVariables false
set_option linter.unusedSimpArgs false
set_option maxRecDepth 4000
set_option maxHeartbeats 32000000 in
theorem cpy_tc (s : List Pr) (u : List Ss) (hl : s.length ≤ 2097152) (hu : u.length ≤ 2097152) : TC Try.prog 127 [.agg [.t (.sl 2 (s.map Pr.tr)), .t (.sl 4 (u.map Ss.tr))]] [] 1 (.agg [.t (.sl 2 (s.map Pr.tr)), .t (.sl 4 (u.map Ss.tr))]) [] 1 := by
  refine tc_cell tabOk Try.func127 rfl 42 rfl (Nat.le_of_ble_eq_true rfl) (by decide) [(2, some 76)] rfl (by intro id x h; cases h) ?_
  intro w0 E0
  have kOk := kT1
  have hp := True.intro
  refine wk1 ?_
  refine am_ownNilCell 3 0 206 2 rfl rfl ?_
  refine go1 ?_
  refine am_ownNilCell 3 1 192 4 rfl rfl ?_
  refine go1 ?_
  have ec : (([.t (.v (.slice none 0 0)), .t (.v (.slice none 0 0))] : List CV).set 0 (.own 4 0 0)).set 1 (.own 5 0 0) = [.own 4 0 0, .own 5 0 0] := rfl
  rw [ec]
  clear hp ec
  have hp := True.intro
  refine am_tidy [(1, 1), (2, 2), (3, 3), (4, 4), (5, 5)] [1, 2, 3, 4] 6 rfl ?_
  refine go1 ?_
  clear hp
  refine am_loop (s.length + 1) ?_
  suffices key : ∀ (d k : Nat), k + d = s.length → amR Try.prog _ _ _ (d + 1) ⟨[(1, .c (.ptr 1 0)), (2, .c (.ptr 2 0)), (3, .c (.ptr 3 0)), (4, int (k : Nat))],
      [(1, .cells [.t (.sl 2 (s.map Pr.tr)), .t (.sl 4 (u.map Ss.tr))]), (2, .cells [.t (.v (.slice none 0 0)), .t (.v (.slice none 0 0))]), (3, .cells [.own 4 0 k, .own 5 0 0]), (4, .arr 206 2 ((s.take k).map Pr.tr)), (5, .arr 192 4 [])], 6⟩ from key s.length 0 (by simp)
  intro d
  induction d with
  | zero =>
    intro k hk
    have hk' : k = s.length := hk
    subst hk'
    rw [List.take_length]
    have hp := (show (s.map Pr.tr).length = s.length ∧ ((s.length : Int) < (s.length : Int)) = False from ⟨by simp, eq_false (by omega)⟩)
    refine amR_succ ?_
    refine wk1 ?_
    refine am_tidy [(1, 1), (2, 2), (3, 3), (4, 4), (5, 5)] [1, 2, 3, 5] 6 rfl ?_
    refine go1 ?_
    clear hp
    refine am_loop (u.length + 1) ?_
    suffices key2 : ∀ (d k : Nat), k + d = u.length → amR Try.prog _ _ _ (d + 1) ⟨[(1, .c (.ptr 1 0)), (2, .c (.ptr 2 0)), (3, .c (.ptr 3 0)), (5, int (k : Nat))],
        [(1, .cells [.t (.sl 2 (s.map Pr.tr)), .t (.sl 4 (u.map Ss.tr))]), (2, .cells [.t (.v (.slice none 0 0)), .t (.v (.slice none 0 0))]), (3, .cells [.own 4 0 s.length, .own 5 0 k]), (4, .arr 206 2 (s.map Pr.tr)), (5, .arr 192 4 ((u.take k).map Ss.tr))], 6⟩ from key2 u.length 0 (by simp)
    intro d
    induction d with
    | zero =>
      intro k hk
      have hk' : k = u.length := hk
      subst hk'
      rw [List.take_length]
      have hp := (show (u.map Ss.tr).length = u.length ∧ (s.map Pr.tr).length = s.length ∧ ((u.length : Int) < (u.length : Int)) = False from ⟨by simp, by simp, eq_false (by omega)⟩)
      refine amR_succ ?_
      refine am_frz 4 rfl (Nat.le_of_ble_eq_true rfl) (by decide) ?_
      refine go1 ?_
      refine am_frz 5 rfl (Nat.le_of_ble_eq_true rfl) (by decide) ?_
      refine go1 ?_
      refine wk1 ?_
      refine am_retC [] rfl ?_ rfl rfl
      first | refine go ?_ | rfl
    | succ d ih =>
      intro k hk
      obtain ⟨e, he⟩ : ∃ e, u[k]? = some e := ⟨u[k]'(by omega), List.getElem?_eq_getElem (by omega)⟩
      have hp := (show (u.map Ss.tr).length = u.length ∧ (k ≤ k) = True ∧ ((k : Int) < (u.length : Int)) = True ∧ (u.map Ss.tr)[k]? = some e.tr ∧ IntKind.i64.wrap ((k : Int) + 1) = ((k + 1 : Nat) : Int) ∧ (k < u.length) = True ∧ (k ≤ ((u.take k).map Ss.tr).length) = True ∧ ((u.take k).map Ss.tr).take k = (u.take k).map Ss.tr ∧ (u.take k).map Ss.tr ++ [e.tr] = (u.take (k + 1)).map Ss.tr ∧ ((u.take k).map Ss.tr).length = k from
        ⟨by simp, eq_true (Nat.le_refl k), eq_true (by omega), by rw [List.getElem?_map, he]; rfl, by rw [wrapN (by omega) (by omega)]; rfl, eq_true (by omega), eq_true (by simp; omega), List.take_of_length_le (by simp; omega), by rw [List.take_add_one, he]; simp, by simp; omega⟩)
      obtain ⟨a, q, o, v⟩ := e
      simp only [Ss.tr] at hp
      refine amR_succ ?_
      refine wk1 ?_
      refine am_dreg mixed tabOk kOk rfl rfl fun K hK => ?_
      refine go1 ?_
      refine ⟨by omega, by unfold maxLen; omega, ?_⟩
      refine go1 ?_
      refine hK _ _ rfl ?_
      clear hK K
      refine go1 ?_
      refine wk1 ?_
      refine amR_tidy [(1, 1), (2, 2), (3, 3), (4, 4), (7, 5)] [1, 2, 3, 5] 6 rfl ?_
      refine go1 ?_
      exact ih (k + 1) (by omega)
  | succ d ih =>
    intro k hk
    obtain ⟨e, he⟩ : ∃ e, s[k]? = some e := ⟨s[k]'(by omega), List.getElem?_eq_getElem (by omega)⟩
    have hp := (show (s.map Pr.tr).length = s.length ∧ (k ≤ k) = True ∧ ((k : Int) < (s.length : Int)) = True ∧ (s.map Pr.tr)[k]? = some e.tr ∧ IntKind.i64.wrap ((k : Int) + 1) = ((k + 1 : Nat) : Int) ∧ (k < s.length) = True ∧ (k ≤ ((s.take k).map Pr.tr).length) = True ∧ ((s.take k).map Pr.tr).take k = (s.take k).map Pr.tr ∧ (s.take k).map Pr.tr ++ [e.tr] = (s.take (k + 1)).map Pr.tr ∧ ((s.take k).map Pr.tr).length = k from
      ⟨by simp, eq_true (Nat.le_refl k), eq_true (by omega), by rw [List.getElem?_map, he]; rfl, by rw [wrapN (by omega) (by omega)]; rfl, eq_true (by omega), eq_true (by simp; omega), List.take_of_length_le (by simp; omega), by rw [List.take_add_one, he]; simp, by simp; omega⟩)
    obtain ⟨a, v⟩ := e
    simp only [Pr.tr] at hp
    refine amR_succ ?_
    refine wk1 ?_
    refine am_dreg mixed tabOk kOk rfl rfl fun K hK => ?_
    refine go1 ?_
    refine ⟨by omega, by unfold maxLen; omega, ?_⟩
    refine go1 ?_
    refine hK _ _ rfl ?_
    clear hK K
    refine go1 ?_
    refine wk1 ?_
    refine amR_tidy [(1, 1), (2, 2), (3, 3), (7, 4), (5, 5)] [1, 2, 3, 4] 6 rfl ?_
    refine go1 ?_
    exact ih (k + 1) (by omega)
def sesF (u : List Ss) (c : Int) : Ss := (getS c u).getD ⟨0, 0, 0, ⟨#[]⟩⟩
theorem find_drop {α : Type} {f : α → Bool} {l : List α} {k : Nat} {e : α} (h : l[k]? = some e) : (l.drop k).find? f = if f e = true then some e else (l.drop (k + 1)).find? f := by
  have hi := (List.getElem?_eq_some_iff.1 h).1
  have e' : l[k] = e := by rw [List.getElem?_eq_getElem hi] at h; exact Option.some.inj h
  rw [List.drop_eq_getElem_cons hi, List.find?_cons, e']
  cases f e <;> rfl
set_option maxHeartbeats 32000000 in
theorem ses_tc (s : List Pr) (u : List Ss) (c : Int) (hu : u.length ≤ 2097152) : TC Try.prog 144 [.agg [.t (.sl 2 (s.map Pr.tr)), .t (.sl 4 (u.map Ss.tr))], int c] [] 1 (.agg (sesF u c).cv) [] 1 := by
  refine tc_cell tabOk Try.func144 rfl 27 rfl (Nat.le_of_ble_eq_true rfl) (by decide) [(4, some 192)] rfl (by intro id x h; cases h) ?_
  intro w0 E0
  have kOk := kT1
  have hp := True.intro
  refine wk1 ?_
  refine am_tidy [(1, 1), (2, 2)] [1, 2, 4, 5] 3 rfl ?_
  refine go1 ?_
  clear hp
  refine am_loop (u.length + 1) ?_
  suffices key : ∀ (d k : Nat), k + d = u.length → (u.drop k).find? (fun b => decide (c = b.cl)) = getS c u → amR Try.prog _ _ _ (d + 1) ⟨[(1, int c), (2, .c (.ptr 1 0)), (4, .c (.ptr 2 0)), (5, int (k : Nat))], [(1, .cells [.t (.sl 2 (s.map Pr.tr)), .t (.sl 4 (u.map Ss.tr))]), (2, .cells [ci 0, ci 0, ci 0, cs ⟨#[]⟩])], 3⟩ from key u.length 0 (by simp) rfl
  intro d
  induction d with
  | zero =>
    intro k hk hf
    rw [List.drop_eq_nil_of_le (by omega)] at hf
    have e : sesF u c = ⟨0, 0, 0, ⟨#[]⟩⟩ := by unfold sesF; rw [← hf]; rfl
    rw [e]
    have hp := (show (u.map Ss.tr).length = u.length ∧ ((k : Int) < (u.length : Int)) = False from ⟨by simp, eq_false (by omega)⟩)
    refine amR_succ ?_
    refine wk1 ?_
    refine am_retC [] rfl ?_ rfl rfl
    first | rfl | (refine go ?_; rfl)
  | succ d ih =>
    intro k hk hf
    obtain ⟨e, he⟩ : ∃ e, u[k]? = some e := ⟨u[k]'(by omega), List.getElem?_eq_getElem (by omega)⟩
    rw [find_drop he] at hf
    have base := (show (u.map Ss.tr).length = u.length ∧ ((k : Int) < (u.length : Int)) = True ∧ (k < u.length) = True ∧ (u.map Ss.tr)[k]? = some e.tr ∧ IntKind.i64.wrap ((k : Int) + 1) = ((k + 1 : Nat) : Int) from
      ⟨by simp, eq_true (by omega), eq_true (by omega), by rw [List.getElem?_map, he]; rfl, by rw [wrapN (by omega) (by omega)]; rfl⟩)
    obtain ⟨a, q, o, v⟩ := e
    simp only [Ss.tr] at base
    refine amR_succ ?_
    by_cases hc : c = a
    · subst hc
      have e : sesF u c = ⟨c, q, o, v⟩ := by unfold sesF; rw [← hf]; simp
      rw [e]
      have hp := And.intro base (show (c == c) = true from by simp)
      refine wk1 ?_
      refine am_retC [] rfl ?_ rfl rfl
      first | rfl | (refine go ?_; rfl)
    · have hp := And.intro base (show (a == c) = false from by simp; omega)
      have ihk := ih (k + 1) (by omega) (by rw [← hf]; simp [hc])
      clear ih
      refine wk1 ?_
      refine amR_tidy [(1, 1), (2, 2)] [1, 2, 4, 5] 3 rfl ?_
      refine go1 ?_
      exact ihk
def valF (s : List Pr) (k : ByteArray) : ByteArray := ((getP k s).map Pr.v).getD ⟨#[]⟩
set_option maxHeartbeats 32000000 in
theorem val_tc (s : List Pr) (u : List Ss) (c : ByteArray) (hu : s.length ≤ 2097152) : TC Try.prog 145 [.agg [.t (.sl 2 (s.map Pr.tr)), .t (.sl 4 (u.map Ss.tr))], str c] [] 1 (.tup [str (valF s c), bool (getP c s).isSome]) [] 1 := by
  refine tc_intro Try.func145 rfl 28 rfl (Nat.le_of_ble_eq_true rfl) (by decide) [4, 5] rfl (by intro id x h; cases h) ?_
  intro w0 E0
  have kOk := kT1
  have hp := True.intro
  refine wk1 ?_
  refine am_tidy [(1, 1)] [1, 2, 6] 2 rfl ?_
  refine go1 ?_
  clear hp
  refine am_loop (s.length + 1) ?_
  suffices key : ∀ (d k : Nat), k + d = s.length → (s.drop k).find? (fun b => decide (c = b.k)) = getP c s → amR Try.prog _ _ _ (d + 1) ⟨[(1, str c), (2, .c (.ptr 1 0)), (6, int (k : Nat))], [(1, .cells [.t (.sl 2 (s.map Pr.tr)), .t (.sl 4 (u.map Ss.tr))])], 2⟩ from key s.length 0 (by simp) rfl
  intro d
  induction d with
  | zero =>
    intro k hk hf
    rw [List.drop_eq_nil_of_le (by omega)] at hf
    have e : getP c s = none := by rw [← hf]; rfl
    have e1 : valF s c = ⟨#[]⟩ := by unfold valF; rw [e]; rfl
    rw [e, e1]
    have hp := (show (s.map Pr.tr).length = s.length ∧ ((k : Int) < (s.length : Int)) = False from ⟨by simp, eq_false (by omega)⟩)
    refine amR_succ ?_
    refine wk1 ?_
    refine am_retP rfl ?_ rfl
    first | refine go ?_ | rfl
  | succ d ih =>
    intro k hk hf
    obtain ⟨e, he⟩ : ∃ e, s[k]? = some e := ⟨s[k]'(by omega), List.getElem?_eq_getElem (by omega)⟩
    rw [find_drop he] at hf
    have base := (show (s.map Pr.tr).length = s.length ∧ ((k : Int) < (s.length : Int)) = True ∧ (k < s.length) = True ∧ (s.map Pr.tr)[k]? = some e.tr ∧ IntKind.i64.wrap ((k : Int) + 1) = ((k + 1 : Nat) : Int) from
      ⟨by simp, eq_true (by omega), eq_true (by omega), by rw [List.getElem?_map, he]; rfl, by rw [wrapN (by omega) (by omega)]; rfl⟩)
    obtain ⟨a, v⟩ := e
    simp only [Pr.tr] at base
    refine amR_succ ?_
    by_cases hc : c = a
    · subst hc
      have e : getP c s = some ⟨c, v⟩ := by rw [← hf]; simp
      have e1 : valF s c = v := by unfold valF; rw [e]; rfl
      rw [e, e1]
      have hp := And.intro base (show decide (c = c) = true from by simp)
      refine wk1 ?_
      refine am_retP rfl ?_ rfl
      first | refine go ?_ | rfl
    · have hp := And.intro base (show decide (a = c) = false from by simpa using fun e => hc e.symm)
      have ihk := ih (k + 1) (by omega) (by rw [← hf]; simp [hc])
      clear ih
      refine wk1 ?_
      refine amR_tidy [(1, 1)] [1, 2, 6] 2 rfl ?_
      refine go1 ?_
      exact ihk
end Go.Proofs.YthnpbfljoghbmaaA
