/- Logs carried out, the program's way and the reference's. -/
import Derived.Test.YthnpbfljoghbmaaCImp
namespace Go.Proofs.YthnpbfljoghbmaaA
open Go.Proofs
set_option autoImplicit false
set_option linter.unusedVariables false
set_option linter.unusedSimpArgs false
set_option maxRecDepth 4000
attribute [go_sem] Cm.cv
def logOk (l : List Ent) : Bool := decide (l.length ≤ 4096) && l.all entOk
def mapsL (l : List Ent) : List Pr × List Ss := l.foldl (fun a e => (carF a.1 a.2 e.m).2) ([], [])
def stL (l : List Ent) : Tb := l.foldl (fun t e => (refF t e.m).t) ⟨[], []⟩
theorem mapsL_snoc (l : List Ent) (e : Ent) : mapsL (l ++ [e]) = (carF (mapsL l).1 (mapsL l).2 e.m).2 := by simp [mapsL]
theorem stL_snoc (l : List Ent) (e : Ent) : stL (l ++ [e]) = (refF (stL l) e.m).t := by simp [stL]
theorem inv_fold : ∀ (l : List Ent) (a : List Pr × List Ss) (t : Tb), Inv a.1 a.2 t → (∀ e, e ∈ l → entOk e = true) → Inv (l.foldl (fun a e => (carF a.1 a.2 e.m).2) a).1 (l.foldl (fun a e => (carF a.1 a.2 e.m).2) a).2 (l.foldl (fun t e => (refF t e.m).t) t)
  | [], a, t, h, _ => h
  | e :: l, a, t, h, hl => by
    have he : cmF e.m = 0 := by
      have := hl e List.mem_cons_self
      simp only [entOk, decide_eq_true_eq] at this
      exact this.2
    exact inv_fold l _ _ (car_ok h he).2 fun x hx => hl x (List.mem_cons_of_mem _ hx)
theorem inv_log {l : List Ent} (h : l.all entOk = true) (n : Nat) : Inv (mapsL (l.take n)).1 (mapsL (l.take n)).2 (stL (l.take n)) :=
  inv_fold _ _ _ inv_nil fun e he => List.all_eq_true.1 h e (List.mem_of_mem_take he)
/-- How many are carried out. -/
def cutN (upto : Int) (len : Nat) : Nat := min upto.toNat len
theorem cutN_eq (upto : Int) (len : Nat) : (if (len : Int) < (if (0 : Int) > upto then 0 else upto) then (len : Int) else (if (0 : Int) > upto then 0 else upto)) = ((cutN upto len : Nat) : Int) := by
  unfold cutN
  split <;> split <;> omega
theorem all_drop {l : List Ent} {k : Nat} {e : Ent} (h : l[k]? = some e) : (l.drop k).all entOk = (entOk e && (l.drop (k + 1)).all entOk) := by
  have hk := (List.getElem?_eq_some_iff.1 h).1
  rw [List.drop_eq_getElem_cons hk, List.all_cons]
  have : l[k] = e := by rw [List.getElem?_eq_getElem hk] at h; exact Option.some.inj h
  rw [this]
theorem lgI0_tc (l : List Ent) (n : Int) (h : logOk l = false) : TC Try.prog 45 [ro 7 (l.map Ent.tr), int n] [] 1 (.agg [nl, nl]) [] 1 := by
  refine tc_cell tabOk Try.func45 rfl 46 rfl (Nat.le_of_ble_eq_true rfl) (by decide) [(4, some 76)] rfl (by intro id x h; cases h) ?_
  intro w0 E0
  have kOk := kT9
  by_cases hl : l.length ≤ 4096
  rotate_left
  · have hp := (show (l.map Ent.tr).length = l.length ∧ ((l.length : Int) > 4096) = True from ⟨by simp, eq_true (by omega)⟩)
    refine wk1 ?_
    refine am_retC [] rfl ?_ rfl rfl
    first | rfl | (refine go ?_; rfl)
  have ha : l.all entOk = false := by simpa [logOk, hl] using h
  have hp := (show (l.map Ent.tr).length = l.length ∧ ((l.length : Int) > 4096) = False from ⟨by simp, eq_false (by omega)⟩)
  refine wk1 ?_
  refine am_tidy [(1, 1)] [0, 1, 4, 14, 15, 16] 2 rfl ?_
  refine go1 ?_
  clear hp
  refine am_loop (l.length + 1) ?_
  suffices key : ∀ (d k : Nat), k + d = l.length → (l.drop k).all entOk = false → amR Try.prog _ _ _ (d + 1) ⟨[(0, ro 7 (l.map Ent.tr)), (1, int n), (4, .c (.ptr 1 0)), (14, ro 7 (l.map Ent.tr)), (15, int (l.length : Nat)), (16, int (k : Nat))], [(1, .cells [nl, nl])], 2⟩ from key l.length 0 (by simp) ha
  intro d
  induction d with
  | zero =>
    intro k hk hf
    rw [List.drop_eq_nil_of_le (by omega)] at hf
    cases hf
  | succ d ih =>
    intro k hk hf
    obtain ⟨e, he⟩ : ∃ e, l[k]? = some e := ⟨l[k]'(by omega), List.getElem?_eq_getElem (by omega)⟩
    rw [all_drop he] at hf
    have base := (show ((k : Int) < (l.length : Int)) = True ∧ (k < l.length) = True ∧ (l.map Ent.tr)[k]? = some e.tr ∧ IntKind.i64.wrap ((k : Int) + 1) = ((k + 1 : Nat) : Int) from ⟨eq_true (by omega), eq_true (by omega), by rw [List.getElem?_map, he]; rfl, by rw [wrapN (by omega) (by omega)]; rfl⟩)
    obtain ⟨t, ⟨a, b, o, x, y, z⟩⟩ := e
    simp only [Ent.tr] at base
    refine amR_succ ?_
    cases hok : entOk ⟨t, ⟨a, b, o, x, y, z⟩⟩ with
    | true =>
      have ihk := ih (k + 1) (by omega) (by rw [hok] at hf; simpa using hf)
      clear ih
      have hp := And.intro base hok
      refine wk1 ?_
      refine amR_tidy [(1, 1)] [0, 1, 4, 14, 15, 16] 2 rfl ?_
      refine go1 ?_
      exact ihk
    | false =>
      have hp := And.intro base hok
      refine wk1 ?_
      refine am_retC [] rfl ?_ rfl rfl
      first | rfl | (refine go ?_; rfl)
set_option maxHeartbeats 16000000 in
theorem lgI_tc (l : List Ent) (n : Int) (h : logOk l = true) : TC Try.prog 45 [ro 7 (l.map Ent.tr), int n] [] 1 (.agg [.own 1 0 (stL (l.take (cutN n l.length))).ps.length, .own 2 0 (stL (l.take (cutN n l.length))).ss.length]) (stL (l.take (cutN n l.length))).rows 3 := by
  simp only [Tb.rows]
  refine tc_cell tabOk Try.func45 rfl 46 rfl (Nat.le_of_ble_eq_true rfl) (by decide) [(4, some 76)] rfl (by intro id x h; cases h) ?_
  intro w0 E0
  have kOk := kT9
  simp only [logOk, Bool.and_eq_true, decide_eq_true_eq] at h
  obtain ⟨hl, ha⟩ := h
  have hp := (show (l.map Ent.tr).length = l.length ∧ ((l.length : Int) > 4096) = False from ⟨by simp, eq_false (by omega)⟩)
  refine wk1 ?_
  refine am_tidy [(1, 1)] [0, 1, 4, 14, 15, 16] 2 rfl ?_
  refine go1 ?_
  clear hp
  refine am_loop (l.length + 1) ?_
  suffices key : ∀ (d k : Nat), k + d = l.length → amR Try.prog _ _ _ (d + 1) ⟨[(0, ro 7 (l.map Ent.tr)), (1, int n), (4, .c (.ptr 1 0)), (14, ro 7 (l.map Ent.tr)), (15, int (l.length : Nat)), (16, int (k : Nat))], [(1, .cells [nl, nl])], 2⟩ from key l.length 0 (by simp)
  intro d
  induction d with
  | zero =>
    intro k hk
    have hN : cutN n l.length ≤ l.length := Nat.min_le_right _ _
    have hp := (show ((k : Int) < (l.length : Int)) = False ∧ (l.map Ent.tr).length = l.length ∧ (if (l.length : Int) < (if (0 : Int) > n then 0 else n) then (l.length : Int) else (if (0 : Int) > n then 0 else n)) = ((cutN n l.length : Nat) : Int) ∧ (0 ≤ ((cutN n l.length : Nat) : Int)) = True ∧ ((cutN n l.length : Nat) : Int).toNat = cutN n l.length ∧ (cutN n l.length ≤ l.length) = True ∧ (0 ≤ cutN n l.length) = True ∧
        ((l.map Ent.tr).drop 0).take (cutN n l.length) = (l.take (cutN n l.length)).map Ent.tr ∧ (l.map Ent.tr).take (cutN n l.length) = (l.take (cutN n l.length)).map Ent.tr ∧ ((l.take (cutN n l.length)).map Ent.tr).length = cutN n l.length from
      ⟨eq_false (by omega), by simp, cutN_eq n l.length, eq_true (by omega), by omega, eq_true hN, eq_true (Nat.zero_le _), by simp [List.map_take], by simp [List.map_take], by simp [hN]⟩)
    generalize cutN n l.length = N at hp hN ⊢
    refine amR_succ ?_
    refine wk1 ?_
    refine am_tidy [(1, 1), (2, 2), (3, 3), (4, 4)] [4, 7, 33, 34, 35] 5 rfl ?_
    refine go1 ?_
    clear hp
    refine am_loop (N + 1) ?_
    suffices key2 : ∀ (d k : Nat), k + d = N → amR Try.prog _ _ _ (d + 1) ⟨[(4, .c (.ptr 1 0)), (7, .c (.ptr 2 0)), (33, ro 7 ((l.take N).map Ent.tr)), (34, int (N : Nat)), (35, int (k : Nat))], [(1, .cells [nl, nl]), (2, .cells [.mp 3, .mp 4]), (3, .mp none ((mapsL (l.take k)).1.map entP)), (4, .mp (some .i64) ((mapsL (l.take k)).2.map entS))], 5⟩ from key2 N 0 (by simp)
    intro d
    induction d with
    | zero =>
      intro k hk
      have hk' : k = N := hk
      subst hk'
      have hi := inv_log ha k
      have hp := (show ((k : Int) < (k : Int)) = False ∧ tellP (mapsL (l.take k)).1 = (stL (l.take k)).ps ∧ tellS (mapsL (l.take k)).2 = (stL (l.take k)).ss ∧ (RpP (mapsL (l.take k)).1 (stL (l.take k)).ps) = True ∧ (RpS (mapsL (l.take k)).2 (stL (l.take k)).ss) = True ∧ okP (mapsL (l.take k)).1 = true ∧ okS (mapsL (l.take k)).2 = true from
        ⟨eq_false (by omega), tellP_of hi.p, tellS_of hi.s, eq_true hi.p, eq_true hi.s, hi.okP, hi.okS⟩)
      refine amR_succ ?_
      refine wk1 ?_
      refine am_retC [(5, 1), (6, 2)] rfl ?_ rfl rfl
      first | rfl | (refine go ?_; rfl)
    | succ d ih =>
      intro k hk
      obtain ⟨e, he⟩ : ∃ e, l[k]? = some e := ⟨l[k]'(by omega), List.getElem?_eq_getElem (by omega)⟩
      have hm : mapsL (l.take (k + 1)) = (carF (mapsL (l.take k)).1 (mapsL (l.take k)).2 e.m).2 := by rw [List.take_add_one, he]; exact mapsL_snoc _ _
      have ihk := ih (k + 1) (by omega)
      rw [hm] at ihk
      clear ih hm
      have base := (show ((k : Int) < (N : Int)) = True ∧ (k < N) = True ∧ ((l.take N).map Ent.tr).length = N ∧ ((l.take N).map Ent.tr)[k]? = some e.tr ∧ IntKind.i64.wrap ((k : Int) + 1) = ((k + 1 : Nat) : Int) from ⟨eq_true (by omega), eq_true (by omega), by simp [hN], by rw [List.getElem?_map, List.getElem?_take_of_lt (by omega), he]; rfl, by rw [wrapN (by omega) (by omega)]; rfl⟩)
      obtain ⟨t, ⟨a, b, o, x, y, z⟩⟩ := e
      simp only [Ent.tr] at base
      have hp := base
      refine amR_succ ?_
      refine wk1 ?_
      refine amR_tidy [(1, 1), (2, 2), (3, 3), (4, 4)] [4, 7, 33, 34, 35] 5 rfl ?_
      refine go1 ?_
      exact ihk
  | succ d ih =>
    intro k hk
    obtain ⟨e, he⟩ : ∃ e, l[k]? = some e := ⟨l[k]'(by omega), List.getElem?_eq_getElem (by omega)⟩
    have base := (show ((k : Int) < (l.length : Int)) = True ∧ (k < l.length) = True ∧ (l.map Ent.tr)[k]? = some e.tr ∧ IntKind.i64.wrap ((k : Int) + 1) = ((k + 1 : Nat) : Int) from ⟨eq_true (by omega), eq_true (by omega), by rw [List.getElem?_map, he]; rfl, by rw [wrapN (by omega) (by omega)]; rfl⟩)
    have hok : entOk e = true := List.all_eq_true.1 ha e (List.mem_of_getElem? he)
    obtain ⟨t, ⟨a, b, o, x, y, z⟩⟩ := e
    simp only [Ent.tr] at base
    have ihk := ih (k + 1) (by omega)
    clear ih
    have hp := And.intro base hok
    refine amR_succ ?_
    refine wk1 ?_
    refine amR_tidy [(1, 1)] [0, 1, 4, 14, 15, 16] 2 rfl ?_
    refine go1 ?_
    exact ihk
/-! ### The reference's way -/
theorem lgS0_tc (l : List Ent) (n : Int) (h : logOk l = false) : TC Try.prog 43 [ro 7 (l.map Ent.tr), int n] [] 1 (.agg [nl, nl]) [] 1 := by
  refine tc_cell tabOk Try.func43 rfl 46 rfl (Nat.le_of_ble_eq_true rfl) (by decide) [(4, some 76)] rfl (by intro id x h; cases h) ?_
  intro w0 E0
  have kOk := kT9
  by_cases hl : l.length ≤ 4096
  rotate_left
  · have hp := (show (l.map Ent.tr).length = l.length ∧ ((l.length : Int) > 4096) = True from ⟨by simp, eq_true (by omega)⟩)
    refine wk1 ?_
    refine am_retC [] rfl ?_ rfl rfl
    first | rfl | (refine go ?_; rfl)
  have ha : l.all entOk = false := by simpa [logOk, hl] using h
  have hp := (show (l.map Ent.tr).length = l.length ∧ ((l.length : Int) > 4096) = False from ⟨by simp, eq_false (by omega)⟩)
  refine wk1 ?_
  refine am_tidy [(1, 1), (2, 2)] [0, 1, 4, 5, 6] 3 rfl ?_
  refine go1 ?_
  clear hp
  refine am_loop (l.length + 1) ?_
  suffices key : ∀ (d k : Nat), k + d = l.length → (l.drop k).all entOk = false → amR Try.prog _ _ _ (d + 1) ⟨[(0, ro 7 (l.map Ent.tr)), (1, int n), (4, .c (.ptr 1 0)), (5, .c (.ptr 2 0)), (6, int (k : Nat))], [(1, .cells [nl, nl]), (2, .cells [nl, nl])], 3⟩ from key l.length 0 (by simp) ha
  intro d
  induction d with
  | zero =>
    intro k hk hf
    rw [List.drop_eq_nil_of_le (by omega)] at hf
    cases hf
  | succ d ih =>
    intro k hk hf
    obtain ⟨e, he⟩ : ∃ e, l[k]? = some e := ⟨l[k]'(by omega), List.getElem?_eq_getElem (by omega)⟩
    rw [all_drop he] at hf
    have base := (show (l.map Ent.tr).length = l.length ∧ ((k : Int) < (l.length : Int)) = True ∧ (k < l.length) = True ∧ (l.map Ent.tr)[k]? = some e.tr ∧ IntKind.i64.wrap ((k : Int) + 1) = ((k + 1 : Nat) : Int) from ⟨by simp, eq_true (by omega), eq_true (by omega), by rw [List.getElem?_map, he]; rfl, by rw [wrapN (by omega) (by omega)]; rfl⟩)
    obtain ⟨t, ⟨a, b, o, x, y, z⟩⟩ := e
    simp only [Ent.tr] at base
    refine amR_succ ?_
    cases hok : entOk ⟨t, ⟨a, b, o, x, y, z⟩⟩ with
    | true =>
      have ihk := ih (k + 1) (by omega) (by rw [hok] at hf; simpa using hf)
      clear ih
      have hp := And.intro base hok
      refine wk1 ?_
      refine amR_tidy [(1, 1), (2, 2)] [0, 1, 4, 5, 6] 3 rfl ?_
      refine go1 ?_
      exact ihk
    | false =>
      have hp := And.intro base hok
      refine wk1 ?_
      refine am_retC [] rfl ?_ rfl rfl
      first | rfl | (refine go ?_; rfl)
/-- A nil slice in a variable is a row that came in with nothing in it. -/
theorem Rel.nilCell {C : Ctx} {st : St} {a : Act} {w : World} (h : Rel C st a w) {id j : Nat} {xs : List CV} (ho : st.obj id = some (.cells xs)) (hj : xs[j]? = some nl) (sz : Nat) : Rel C (st.setObj id (.cells (xs.set j (.t (.sl sz []))))) a w := by
  obtain ⟨E, h⟩ := h
  refine ⟨E, { h with objs := fun i o hi => ?_ }⟩
  have hi' : look i (upd id (.cells (xs.set j (.t (.sl sz [])))) st.objs) = some o := hi
  rw [look_upd] at hi'
  split at hi'
  · rename_i e
    subst e
    cases hi'
    obtain ⟨g, base, cur, ty, k1, k2, k3, k4⟩ := h.objs _ _ ho
    refine ⟨g, base, cur, ty, k1, k2, by simpa using k3, fun q x hx => ?_⟩
    rw [List.getElem?_set] at hx
    split at hx
    · rename_i e
      subst e
      split at hx
      · cases hx
        obtain ⟨m1, v, m2, m3, m4⟩ := k4 _ _ hj
        exact ⟨m1, v, m2, m3, nil_sl sz m4⟩
      · cases hx
    · exact k4 _ _ hx
  · exact h.objs _ _ hi'
theorem am_nilCell {P : Program} {Q : Exit → St → Prop} {C : Ctx} {st : St} {c : Code} (id j : Nat) {xs : List CV} (sz : Nat) (ho : st.obj id = some (.cells xs)) (hj : xs[j]? = some nl) (h : am P C c Q (st.setObj id (.cells (xs.set j (.t (.sl sz [])))))) : am P C c Q st :=
  am_weak (fun a w hr => Rel.nilCell hr ho hj sz) h
set_option maxHeartbeats 16000000 in
theorem lgS_tc (l : List Ent) (n : Int) (h : logOk l = true) : TC Try.prog 43 [ro 7 (l.map Ent.tr), int n] [] 1 (.agg (stL (l.take (cutN n l.length))).cv) [] 1 := by
  simp only [Tb.cv]
  refine tc_cell tabOk Try.func43 rfl 46 rfl (Nat.le_of_ble_eq_true rfl) (by decide) [(4, some 76)] rfl (by intro id x h; cases h) ?_
  intro w0 E0
  have kOk := kT9
  simp only [logOk, Bool.and_eq_true, decide_eq_true_eq] at h
  obtain ⟨hl, ha⟩ := h
  have hp := (show (l.map Ent.tr).length = l.length ∧ ((l.length : Int) > 4096) = False from ⟨by simp, eq_false (by omega)⟩)
  refine wk1 ?_
  refine am_nilCell 2 0 2 rfl rfl ?_
  refine go1 ?_
  refine am_nilCell 2 1 4 rfl rfl ?_
  refine go1 ?_
  have ec : (([nl, nl] : List CV).set 0 (.t (.sl 2 []))).set 1 (.t (.sl 4 [])) = [.t (.sl 2 []), .t (.sl 4 [])] := rfl
  first | rw [ec] | skip
  refine am_tidy [(1, 1), (2, 2)] [0, 1, 4, 5, 6] 3 rfl ?_
  refine go1 ?_
  clear hp
  refine am_loop (l.length + 1) ?_
  suffices key : ∀ (d k : Nat), k + d = l.length → amR Try.prog _ _ _ (d + 1) ⟨[(0, ro 7 (l.map Ent.tr)), (1, int n), (4, .c (.ptr 1 0)), (5, .c (.ptr 2 0)), (6, int (k : Nat))], [(1, .cells [nl, nl]), (2, .cells [.t (.sl 2 []), .t (.sl 4 [])])], 3⟩ from key l.length 0 (by simp)
  intro d
  induction d with
  | zero =>
    intro k hk
    have hp := (show (l.map Ent.tr).length = l.length ∧ ((k : Int) < (l.length : Int)) = False from ⟨by simp, eq_false (by omega)⟩)
    refine amR_succ ?_
    refine wk1 ?_
    refine am_tidy [(1, 1), (2, 2)] [0, 1, 4, 5, 7] 3 rfl ?_
    refine go1 ?_
    clear hp
    refine am_loop (cutN n l.length + 1) ?_
    have hN : cutN n l.length ≤ l.length := Nat.min_le_right _ _
    have hN2 : ∀ k : Nat, k < cutN n l.length → (k : Int) < n := fun k hk => by unfold cutN at hk; omega
    have hN3 : cutN n l.length = l.length ∨ n ≤ (cutN n l.length : Int) := by unfold cutN; omega
    generalize cutN n l.length = N at hN hN2 hN3 ⊢
    suffices key2 : ∀ (d k : Nat), k + d = N → amR Try.prog _ _ _ (d + 1) ⟨[(0, ro 7 (l.map Ent.tr)), (1, int n), (4, .c (.ptr 1 0)), (5, .c (.ptr 2 0)), (7, int (k : Nat))], [(1, .cells [nl, nl]), (2, .cells [.t (.sl 2 ((stL (l.take k)).ps.map Pr.tr)), .t (.sl 4 ((stL (l.take k)).ss.map Ss.tr))])], 3⟩ from key2 N 0 (by simp)
    intro d
    induction d with
    | zero =>
      intro k hk
      have hk' : k = N := hk
      subst hk'
      refine amR_succ ?_
      by_cases hkl : k = l.length
      · have hp := (show (l.map Ent.tr).length = l.length ∧ ((k : Int) < (l.length : Int)) = False from ⟨by simp, eq_false (by omega)⟩)
        refine wk1 ?_
        refine am_retC [] rfl ?_ rfl rfl
        first | rfl | (refine go ?_; rfl)
      · have hp := (show (l.map Ent.tr).length = l.length ∧ ((k : Int) < (l.length : Int)) = True ∧ ((k : Int) < n) = False from ⟨by simp, eq_true (by omega), eq_false (by omega)⟩)
        refine wk1 ?_
        refine am_retC [] rfl ?_ rfl rfl
        first | rfl | (refine go ?_; rfl)
    | succ d ih =>
      intro k hk
      obtain ⟨e, he⟩ : ∃ e, l[k]? = some e := ⟨l[k]'(by omega), List.getElem?_eq_getElem (by omega)⟩
      have hm : stL (l.take (k + 1)) = (refF (stL (l.take k)) e.m).t := by rw [List.take_add_one, he]; exact stL_snoc _ _
      have htb := (inv_log ha k).tb
      have ihk := ih (k + 1) (by omega)
      rw [hm] at ihk
      clear ih hm
      have base := (show (l.map Ent.tr).length = l.length ∧ ((k : Int) < (l.length : Int)) = True ∧ ((k : Int) < n) = True ∧ (k < l.length) = True ∧ (l.map Ent.tr)[k]? = some e.tr ∧ IntKind.i64.wrap ((k : Int) + 1) = ((k + 1 : Nat) : Int) from ⟨by simp, eq_true (by omega), eq_true (hN2 k (by omega)), eq_true (by omega), by rw [List.getElem?_map, he]; rfl, by rw [wrapN (by omega) (by omega)]; rfl⟩)
      obtain ⟨t, ⟨a, b, o, x, y, z⟩⟩ := e
      simp only [Ent.tr] at base
      generalize stL (l.take k) = T at htb ihk ⊢
      obtain ⟨ps, ss⟩ := T
      have hp := And.intro base htb
      refine amR_succ ?_
      refine wk1 ?_
      refine amR_tidy [(1, 1), (2, 2)] [0, 1, 4, 5, 7] 3 rfl ?_
      refine go1 ?_
      exact ihk
  | succ d ih =>
    intro k hk
    obtain ⟨e, he⟩ : ∃ e, l[k]? = some e := ⟨l[k]'(by omega), List.getElem?_eq_getElem (by omega)⟩
    have base := (show (l.map Ent.tr).length = l.length ∧ ((k : Int) < (l.length : Int)) = True ∧ (k < l.length) = True ∧ (l.map Ent.tr)[k]? = some e.tr ∧ IntKind.i64.wrap ((k : Int) + 1) = ((k + 1 : Nat) : Int) from ⟨by simp, eq_true (by omega), eq_true (by omega), by rw [List.getElem?_map, he]; rfl, by rw [wrapN (by omega) (by omega)]; rfl⟩)
    have hok : entOk e = true := List.all_eq_true.1 ha e (List.mem_of_getElem? he)
    obtain ⟨t, ⟨a, b, o, x, y, z⟩⟩ := e
    simp only [Ent.tr] at base
    have ihk := ih (k + 1) (by omega)
    clear ih
    have hp := And.intro base hok
    refine amR_succ ?_
    refine wk1 ?_
    refine amR_tidy [(1, 1), (2, 2)] [0, 1, 4, 5, 6] 3 rfl ?_
    refine go1 ?_
    exact ihk
end Go.Proofs.YthnpbfljoghbmaaA
