/- Tables at work: told again, in the order of the keys. -/
import Derived.Test.YthnpbfljoghbmaaCChg
namespace Go.Proofs.YthnpbfljoghbmaaA
open Go.Proofs
set_option autoImplicit false
set_option linter.unusedVariables false
set_option linter.unusedSimpArgs false
set_option maxRecDepth 4000
def okP (l : List Pr) : Bool := l.all (fun p => decide (p.k.size ≤ 1048576)) && decide (l.length ≤ 2097152)
def okS (l : List Ss) : Bool := l.all (fun p => decide (1 ≤ p.cl ∧ p.cl ≤ 1073741824)) && decide (l.length ≤ 2097152)
theorem keyP_tc (l : List Pr) (h : okP l = true) : TC Try.prog 150 [.c (.sq 173 1)] [(1, .mp none (l.map entP))] 2 (.c (.own 2 0 l.length)) [(1, .mp none (l.map entP)), (2, .arr 9 1 ((srtT (l.map Pr.k)).map sT))] 3 := by
  simp only [okP, Bool.and_eq_true, List.all_eq_true, decide_eq_true_eq] at h
  have := sortedP_tc (l.map entP) (l.map Pr.k) (by simp [List.map_map, entP, Function.comp_def]) (fun k hk => by obtain ⟨p, hp, rfl⟩ := List.mem_map.1 hk; have := h.1 p hp; unfold maxLen; omega) (by simpa using h.2)
  simpa using this
theorem keyS_tc (l : List Ss) (h : okS l = true) : TC Try.prog 87 [.c (.sq 174 1)] [(1, .mp (some .i64) (l.map entS))] 2 (.c (.own 2 0 l.length)) [(1, .mp (some .i64) (l.map entS)), (2, .arr 3 1 ((srtI (l.map Ss.cl)).map iT1))] 3 := by
  simp only [okS, Bool.and_eq_true, List.all_eq_true, decide_eq_true_eq] at h
  have := sortedI_tc 174 (l.map entS) (l.map Ss.cl) (by simp [List.map_map, entS, Function.comp_def]) (fun k hk => by
    obtain ⟨p, hp, rfl⟩ := List.mem_map.1 hk
    have h1 := h.1 p hp
    have e1 : IntKind.i64.min = -9223372036854775808 := rfl
    have e2 : IntKind.i64.max = 9223372036854775807 := rfl
    omega) (by simpa using h.2) (enters_of Try.func174 (by kernel_rfl) rfl) fun gm nn D0 w Bm hB hc ho => AnyZI.keys_gives (ρ := keysS_ren) { keysS with } Fence.wide _ trivial rfl (by omega) Bm gm nn D0 w hB hc ho
  simpa using this
def kt4_0_0 (es : List (Value × Value)) : CB := some (.c (.sq 173 1), [(1, .mp none es)], 2)
def kt4_0 : List TV → List (Nat × AObj) → CB
  | [.c (.mp 1)], [(1, .mp none es)] => kt4_0_0 es
  | _, _ => none
def kt4_1_0 (es : List (Value × Value)) : CB := some (.c (.sq 174 1), [(1, .mp (some .i64) es)], 2)
def kt4_1 : List TV → List (Nat × AObj) → CB
  | [.c (.mp 1)], [(1, .mp (some .i64) es)] => kt4_1_0 es
  | _, _ => none
def kt4_2_1 (f : Nat) (l : List Pr) : CB := if f = 173 ∧ okP l = true then some (.c (.own 2 0 l.length), [(1, .mp none (l.map entP)), (2, .arr 9 1 ((srtT (l.map Pr.k)).map sT))], 3) else none
def kt4_2_0 (f : Nat) (r0 : List (Value × Value)) : CB := (unPrs r0).bind (kt4_2_1 f)
def kt4_2 : List TV → List (Nat × AObj) → CB
  | [.c (.sq f 1)], [(1, .mp none r0)] => kt4_2_0 f r0
  | _, _ => none
def kt4_3_1 (f : Nat) (l : List Ss) : CB := if f = 174 ∧ okS l = true then some (.c (.own 2 0 l.length), [(1, .mp (some .i64) (l.map entS)), (2, .arr 3 1 ((srtI (l.map Ss.cl)).map iT1))], 3) else none
def kt4_3_0 (f : Nat) (r0 : List (Value × Value)) : CB := (unSss r0).bind (kt4_3_1 f)
def kt4_3 : List TV → List (Nat × AObj) → CB
  | [.c (.sq f 1)], [(1, .mp (some .i64) r0)] => kt4_3_0 f r0
  | _, _ => none
def kt4_call (f : FuncId) (args : List TV) (o : List (Nat × AObj)) : CB := if f = 151 then orO (kt4_0 args o) (kt3.callB f args o) else if f = 152 then orO (kt4_1 args o) (kt3.callB f args o) else if f = 150 then orO (kt4_2 args o) (kt3.callB f args o) else if f = 87 then orO (kt4_3 args o) (kt3.callB f args o) else kt3.callB f args o
def kt4 : Kn := { call := kt3.call, eqs := eqTys, callB := kt4_call }
attribute [go_sem] kt4_0_0 kt4_0 kt4_1_0 kt4_1 kt4_2_0 kt4_2_1 kt4_2 kt4_3_0 kt4_3_1 kt4_3 kt4_call kt4
theorem kt4_ok : ∀ f args o res o1 n1, kt4_call f args o = some (res, o1, n1) → TC Try.prog f args o (o.length + 1) res o1 n1 := by
  intro f args o res o1 n1 h
  unfold kt4_call at h
  split at h
  · rename_i e; subst e
    have hh := orO_elim h
    clear h
    rcases hh with h | h
    rotate_left
    · exact kT3.callB _ _ _ _ _ _ h
    unfold kt4_0 at h
    split at h
    · rename_i es; unfold kt4_0_0 at h
      cases h; exact keysP_tc es
    · cases h
  split at h
  · rename_i e; subst e
    have hh := orO_elim h
    clear h
    rcases hh with h | h
    rotate_left
    · exact kT3.callB _ _ _ _ _ _ h
    unfold kt4_1 at h
    split at h
    · rename_i es; unfold kt4_1_0 at h
      cases h; exact keysS_tc es
    · cases h
  split at h
  · rename_i e; subst e
    have hh := orO_elim h
    clear h
    rcases hh with h | h
    rotate_left
    · exact kT3.callB _ _ _ _ _ _ h
    unfold kt4_2 at h
    split at h
    · rename_i f r0; unfold kt4_2_0 at h
      have hb0 := Option.bind_eq_some_iff.1 h
      clear h
      obtain ⟨l, e0, h⟩ := hb0
      unfold kt4_2_1 at h
      split at h
      · rename_i hc; cases h; rw [unPrs_ok e0]; obtain ⟨rfl, h1⟩ := hc; exact keyP_tc l h1
      · cases h
    · cases h
  split at h
  · rename_i e; subst e
    have hh := orO_elim h
    clear h
    rcases hh with h | h
    rotate_left
    · exact kT3.callB _ _ _ _ _ _ h
    unfold kt4_3 at h
    split at h
    · rename_i f r0; unfold kt4_3_0 at h
      have hb0 := Option.bind_eq_some_iff.1 h
      clear h
      obtain ⟨l, e0, h⟩ := hb0
      unfold kt4_3_1 at h
      split at h
      · rename_i hc; cases h; rw [unSss_ok e0]; obtain ⟨rfl, h1⟩ := hc; exact keyS_tc l h1
      · cases h
    · cases h
  · exact kT3.callB f args o res o1 n1 h
theorem kT4 : KnOk Try.prog kt4 := ⟨kT3.call, eqTysOk, kt4_ok⟩
theorem ofList_toList (a : ByteArray) : (⟨a.toList.toArray⟩ : ByteArray) = a := by
  rw [ByteArray.toList_eq]
theorem srtT_of {l s : List Pr} (h : Rp Pr.k tlt l s) : srtT (l.map Pr.k) = s.map Pr.k := by
  unfold srtT
  have hp : ((l.map Pr.k).map fun k => k.toList).Perm ((s.map Pr.k).map fun k => k.toList) := (h.perm.map _).map _
  have hs : ((s.map Pr.k).map fun k => k.toList).Pairwise fun x y => decide (x ≤ y) = true := by
    rw [List.map_map, List.pairwise_map]
    exact List.Pairwise.imp (R := fun a b : Pr => tlt a.k b.k) (fun {a b} hab => by simpa using List.le_of_lt hab) h.srt
  rw [show ((l.map Pr.k).map fun k => k.toList).mergeSort (fun x y => decide (x ≤ y)) = ((s.map Pr.k).map fun k => k.toList).mergeSort (fun x y => decide (x ≤ y)) from mergeSort_of_perm hp]
  rw [List.mergeSort_of_pairwise hs, List.map_map, List.map_map]
  exact List.map_congr_left fun a _ => ofList_toList a.k
theorem srtI_of {l s : List Ss} (h : Rp Ss.cl (fun x y : Int => x < y) l s) : srtI (l.map Ss.cl) = s.map Ss.cl := by
  unfold srtI
  have hs : (s.map Ss.cl).Pairwise fun x y => decide (x ≤ y) = true := by
    rw [List.pairwise_map]
    exact List.Pairwise.imp (R := fun a b : Ss => a.cl < b.cl) (fun {a b} hab => by simp; omega) h.srt
  rw [show (l.map Ss.cl).mergeSort (fun x y => decide (x ≤ y)) = (s.map Ss.cl).mergeSort (fun x y => decide (x ≤ y)) from mergeSort_of_perm_i (h.perm.map _), List.mergeSort_of_pairwise hs]
theorem getP_of {l s : List Pr} (h : Rp Pr.k tlt l s) {i : Nat} {p : Pr} (hp : s[i]? = some p) : getP p.k l = some p := by
  unfold getP
  rw [h.find ordT]
  exact (find_iff (key := Pr.k) (Rp.ne ordT ⟨List.Perm.refl s, h.srt⟩) p.k p).2 ⟨List.mem_of_getElem? hp, rfl⟩
theorem getS_of {l s : List Ss} (h : Rp Ss.cl (fun x y : Int => x < y) l s) {i : Nat} {p : Ss} (hp : s[i]? = some p) : getS p.cl l = some p := by
  unfold getS
  rw [h.find ordI]
  exact (find_iff (key := Ss.cl) (Rp.ne ordI ⟨List.Perm.refl s, h.srt⟩) p.cl p).2 ⟨List.mem_of_getElem? hp, rfl⟩
set_option maxHeartbeats 32000000 in
theorem tell_tc (l s : List Pr) (m u : List Ss) (h1 : Rp Pr.k tlt l s) (h2 : Rp Ss.cl (fun x y : Int => x < y) m u) (o1 : okP l = true) (o2 : okS m = true) :
    TC Try.prog 114 [.c (.ptr 1 0)] [(1, .cells [.mp 2, .mp 3]), (2, .mp none (l.map entP)), (3, .mp (some .i64) (m.map entS))] 4 (.agg [.own 4 0 s.length, .own 5 0 u.length])
      [(1, .cells [.mp 2, .mp 3]), (2, .mp none (l.map entP)), (3, .mp (some .i64) (m.map entS)), (4, .arr 206 2 (s.map Pr.tr)), (5, .arr 192 4 (u.map Ss.tr))] 6 := by
  have hl : s.length ≤ 2097152 := by
    rw [← h1.perm.length_eq]
    simp only [okP, Bool.and_eq_true, decide_eq_true_eq] at o1
    exact o1.2
  have hu : u.length ≤ 2097152 := by
    rw [← h2.perm.length_eq]
    simp only [okS, Bool.and_eq_true, decide_eq_true_eq] at o2
    exact o2.2
  have e1 := srtT_of h1
  have e2 := srtI_of h2
  have l1 := h1.perm.length_eq
  have l2 := h2.perm.length_eq
  refine tc_cell tabOk Try.func114 rfl 57 rfl (Nat.le_of_ble_eq_true rfl) (by decide) [(2, some 76)] rfl dom3 ?_
  intro w0 E0
  have kOk := kT4
  have hp := And.intro o1 (And.intro e1 l1)
  refine wk1 ?_
  refine am_ownNilCell 5 0 206 2 rfl rfl ?_
  refine go1 ?_
  refine am_ownNilCell 5 1 192 4 rfl rfl ?_
  refine go1 ?_
  clear hp
  have ec : (([.t (.v (.slice none 0 0)), .t (.v (.slice none 0 0))] : List CV).set 0 (.own 7 0 0)).set 1 (.own 8 0 0) = [.own 7 0 0, .own 8 0 0] := rfl
  rw [ec]
  refine am_tidy [(1, 1), (2, 2), (3, 3), (4, 4), (5, 5), (6, 6), (7, 7), (8, 8)] [0, 2, 3, 13, 14, 15] 9 rfl ?_
  refine go1 ?_
  refine am_loop (s.length + 1) ?_
  suffices key : ∀ (d k : Nat), k + d = s.length → amR Try.prog _ _ _ (d + 1) ⟨[(0, .c (.ptr 1 0)), (2, .c (.ptr 4 0)), (3, .c (.ptr 5 0)), (13, .c (.own 6 0 s.length)), (14, int (s.length : Nat)), (15, int (k : Nat))],
      [(1, .cells [.mp 2, .mp 3]), (2, .mp none (l.map entP)), (3, .mp (some .i64) (m.map entS)), (4, .cells [.t (.v (.slice none 0 0)), .t (.v (.slice none 0 0))]), (5, .cells [.own 7 0 k, .own 8 0 0]), (6, .arr 9 1 ((s.map Pr.k).map sT)), (7, .arr 206 2 ((s.take k).map Pr.tr)), (8, .arr 192 4 [])], 9⟩ from key s.length 0 (by simp)
  intro d
  induction d with
  | zero =>
    intro k hk
    have hk' : k = s.length := hk
    subst hk'
    rw [List.take_length]
    have hp := And.intro o2 (And.intro e2 (And.intro l2 (show ((s.length : Int) < (s.length : Int)) = False from eq_false (by omega))))
    refine amR_succ ?_
    refine wk1 ?_
    refine am_tidy [(1, 1), (2, 2), (3, 3), (4, 4), (5, 5), (9, 6), (7, 7), (8, 8)] [0, 2, 3, 38, 39, 40] 9 rfl ?_
    refine go1 ?_
    clear hp
    refine am_loop (u.length + 1) ?_
    suffices key2 : ∀ (d k : Nat), k + d = u.length → amR Try.prog _ _ _ (d + 1) ⟨[(0, .c (.ptr 1 0)), (2, .c (.ptr 4 0)), (3, .c (.ptr 5 0)), (38, .c (.own 6 0 u.length)), (39, int (u.length : Nat)), (40, int (k : Nat))],
        [(1, .cells [.mp 2, .mp 3]), (2, .mp none (l.map entP)), (3, .mp (some .i64) (m.map entS)), (4, .cells [.t (.v (.slice none 0 0)), .t (.v (.slice none 0 0))]), (5, .cells [.own 7 0 s.length, .own 8 0 k]), (6, .arr 3 1 ((u.map Ss.cl).map iT1)), (7, .arr 206 2 (s.map Pr.tr)), (8, .arr 192 4 ((u.take k).map Ss.tr))], 9⟩ from key2 u.length 0 (by simp)
    intro d
    induction d with
    | zero =>
      intro k hk
      have hk' : k = u.length := hk
      subst hk'
      rw [List.take_length]
      have hp := (show ((u.length : Int) < (u.length : Int)) = False from eq_false (by omega))
      refine amR_succ ?_
      refine wk1 ?_
      refine am_retC [(1, 1), (2, 2), (3, 3), (7, 4), (8, 5)] rfl ?_ rfl rfl
      first | refine go ?_ | rfl
    | succ d ih =>
      intro k hk
      obtain ⟨e, he⟩ : ∃ e, u[k]? = some e := ⟨u[k]'(by omega), List.getElem?_eq_getElem (by omega)⟩
      obtain ⟨j, hj⟩ := (getS_m e.cl m).2 e (getS_of h2 he)
      have hp := (show ((k : Int) < (u.length : Int)) = True ∧ ((u.map Ss.cl).map iT1)[k]? = some [.v (.int .i64 e.cl)] ∧ IntKind.i64.wrap ((k : Int) + 1) = ((k + 1 : Nat) : Int) ∧ (k < u.length) = True ∧ (k ≤ ((u.take k).map Ss.tr).length) = True ∧ ((u.take k).map Ss.tr).take k = (u.take k).map Ss.tr ∧ (u.take k).map Ss.tr ++ [e.tr] = (u.take (k + 1)).map Ss.tr ∧ ((u.take k).map Ss.tr).length = k from
        ⟨eq_true (by omega), by rw [List.getElem?_map, List.getElem?_map, he]; rfl, by rw [wrapN (by omega) (by omega)]; rfl, eq_true (by omega), eq_true (by simp; omega), List.take_of_length_le (by simp; omega), by rw [List.take_add_one, he]; simp, by simp; omega⟩)
      have hp := And.intro hj (And.intro (show (k ≤ k) = True from eq_true (Nat.le_refl k)) hp)
      obtain ⟨a, q, o, v⟩ := e
      simp only [Ss.tr] at hp
      refine amR_succ ?_
      refine wk1 ?_
      refine am_dreg mixed tabOk kOk rfl rfl fun K hK => ?_
      refine go1 ?_
      refine ⟨by omega, by unfold maxLen; omega, ?_⟩
      refine go1 ?_
      refine hK _ _ rfl ?_
      clear hK K
      refine go1 ?_
      refine wk1 ?_
      refine amR_tidy [(1, 1), (2, 2), (3, 3), (4, 4), (5, 5), (6, 6), (7, 7), (10, 8)] [0, 2, 3, 38, 39, 40] 9 rfl ?_
      refine go1 ?_
      exact ih (k + 1) (by omega)
  | succ d ih =>
    intro k hk
    obtain ⟨e, he⟩ : ∃ e, s[k]? = some e := ⟨s[k]'(by omega), List.getElem?_eq_getElem (by omega)⟩
    obtain ⟨j, hj⟩ := (getP_m e.k l).2 e (getP_of h1 he)
    have hp := (show ((k : Int) < (s.length : Int)) = True ∧ ((s.map Pr.k).map sT)[k]? = some [.v (.string e.k)] ∧ IntKind.i64.wrap ((k : Int) + 1) = ((k + 1 : Nat) : Int) ∧ (k < s.length) = True ∧ (k ≤ ((s.take k).map Pr.tr).length) = True ∧ ((s.take k).map Pr.tr).take k = (s.take k).map Pr.tr ∧ (s.take k).map Pr.tr ++ [e.tr] = (s.take (k + 1)).map Pr.tr ∧ ((s.take k).map Pr.tr).length = k from
      ⟨eq_true (by omega), by rw [List.getElem?_map, List.getElem?_map, he]; rfl, by rw [wrapN (by omega) (by omega)]; rfl, eq_true (by omega), eq_true (by simp; omega), List.take_of_length_le (by simp; omega), by rw [List.take_add_one, he]; simp, by simp; omega⟩)
    have hp := And.intro hj (And.intro (show (k ≤ k) = True from eq_true (Nat.le_refl k)) hp)
    obtain ⟨a, v⟩ := e
    simp only [Pr.tr] at hp
    refine amR_succ ?_
    refine wk1 ?_
    refine am_dreg mixed tabOk kOk rfl rfl fun K hK => ?_
    refine go1 ?_
    refine ⟨by omega, by unfold maxLen; omega, ?_⟩
    refine go1 ?_
    refine hK _ _ rfl ?_
    clear hK K
    refine go1 ?_
    refine wk1 ?_
    refine amR_tidy [(1, 1), (2, 2), (3, 3), (4, 4), (5, 5), (6, 6), (10, 7), (8, 8)] [0, 2, 3, 13, 14, 15] 9 rfl ?_
    refine go1 ?_
    exact ih (k + 1) (by omega)
end Go.Proofs.YthnpbfljoghbmaaA
