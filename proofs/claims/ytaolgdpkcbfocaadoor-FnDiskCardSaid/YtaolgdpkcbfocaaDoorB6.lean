/- Draws: the state that follows. -/
import Derived.Test.YtaolgdpkcbfocaaDoorB5
import Derived.Test.YtaolgdpkcbfocaaDoorB4
namespace Go.Proofs.YtaolgdpkcbfocaaDoorA
open Go.Proofs
set_option autoImplicit false
set_option linter.unusedVariables false
set_option linter.unusedSimpArgs false
set_option maxRecDepth 4000
def kd10_0_1 (n : Int) (t : Int) (a : Int) (bs : List Int) : CB := if okW bs a ∧ a ≤ 1099511000000 ∧ 0 ≤ n ∧ n ≤ 1000 then some (.c (.own 2 0 (deL bs n.toNat a t).length), [(1, .cells [.t (.sl 1 (bs.map bTr)), ci (deN bs n.toNat a)]), (2, .arr 98 7 ((deL bs n.toNat a t).map Ent.tr))], 3) else none
def kd10_0_0 (n : Int) (t : Int) (a : Int) (r0 : List (List Tree)) : CB := (unBys r0).bind (kd10_0_1 n t a)
def kd10_0 : List TV → List (Nat × AObj) → CB
  | [.c (.ptr 1 0), .c (.t (.v (.int .i64 n))), .c (.t (.v (.int .i64 t)))], [(1, .cells [.t (.sl 1 r0), .t (.v (.int .i64 a))])] => kd10_0_0 n t a r0
  | _, _ => none
def kd10_call (f : FuncId) (args : List TV) (o : List (Nat × AObj)) : CB := if f = 107 then orO (kd10_0 args o) (kd9.callB f args o) else kd9.callB f args o
def kd10 : Kn := { call := kd9.call, eqs := eqTys, callB := kd10_call }
attribute [go_sem] kd10_0_0 kd10_0_1 kd10_0 kd10_call kd10
theorem kd10_ok : ∀ f args o res o1 n1, kd10_call f args o = some (res, o1, n1) → TC Tryd.prog f args o (o.length + 1) res o1 n1 := by
  intro f args o res o1 n1 h
  unfold kd10_call at h
  split at h
  · rename_i e; subst e
    have hh := orO_elim h
    clear h
    rcases hh with h | h
    rotate_left
    · exact kD9.callB _ _ _ _ _ _ h
    unfold kd10_0 at h
    split at h
    · rename_i n t r0 a; unfold kd10_0_0 at h
      have hb0 := Option.bind_eq_some_iff.1 h
      clear h
      obtain ⟨bs, e0, h⟩ := hb0
      unfold kd10_0_1 at h
      split at h
      · rename_i hc; cases h; rw [unBys_ok e0]; exact de_tc bs a n t hc.1.1 hc.1.2.1 hc.2.1 hc.2.2.1 hc.2.2.2
      · cases h
    · cases h
  · exact kD9.callB f args o res o1 n1 h
theorem kD10 : KnOk Tryd.prog kd10 := ⟨kD9.call, eqTysOk, kd10_ok⟩
def nC (bs : List Int) (a : Int) (s : Stb) : Prop := pkX bs a 2 = 0 ∧ s.term < 1073741824
instance (bs : List Int) (a : Int) (s : Stb) : Decidable (nC bs a s) := inferInstanceAs (Decidable (_ ∧ _))
def nD (s : Stb) : Prop := 0 < s.term ∧ s.vote = 0
instance (s : Stb) : Decidable (nD s) := inferInstanceAs (Decidable (_ ∧ _))
def nX (bs : List Int) (a : Int) (s : Stb) : Int := IntKind.i64.wrap (IntKind.i64.wrap (s.term + 1) + pkX bs (pkP a 2) 2)
def nT (bs : List Int) (a : Int) (s : Stb) : Int := if nC bs a s then (if nX bs a s < 1073741824 then nX bs a s else 1073741824) else s.term
def nV (bs : List Int) (a : Int) (s : Stb) : Int := if nC bs a s then pkX bs (pkP (pkP a 2) 2) 8 else if nD s then pkX bs (pkP a 2) 8 else s.vote
def nP (bs : List Int) (a : Int) (s : Stb) : Int := if nC bs a s then pkP (pkP (pkP a 2) 2) 8 else if nD s then pkP (pkP a 2) 8 else pkP a 2
theorem nP_le (bs : List Int) (a : Int) (s : Stb) : a ≤ nP bs a s ∧ nP bs a s ≤ a + 12 := by
  have h1 := pkP_le a 2
  have h2 := pkP_le (pkP a 2) 2
  have h3 := pkP_le (pkP (pkP a 2) 2) 8
  have h4 := pkP_le (pkP a 2) 8
  unfold nP
  (repeat' split) <;> omega
def nK (bs : List Int) (q n : Int) : Int := if pkX bs q 2 = 0 then pkX bs (pkP q 2) (n + 1) else n
def nQ (bs : List Int) (q n : Int) : Int := if pkX bs q 2 = 0 then pkP (pkP q 2) (n + 1) else pkP q 2
theorem nQ_le (bs : List Int) (q n : Int) : q ≤ nQ bs q n ∧ nQ bs q n ≤ q + 8 := by
  have h1 := pkP_le q 2
  have h2 := pkP_le (pkP q 2) (n + 1)
  unfold nQ
  split <;> omega
theorem nK_rng {bs : List Int} {q n : Int} (hw : okS bs) (h0 : 0 ≤ q) (h1 : q ≤ 1099511000000) (hn : 0 ≤ n) : 0 ≤ nK bs q n ∧ nK bs q n ≤ n := by
  have p := pkP_le q 2
  unfold nK
  split
  · have := pkX_rng (bs := bs) (a := pkP q 2) (n := n + 1) ⟨hw, by omega, by omega⟩ (by omega)
    omega
  · omega
/-- The term that the last kept entry bears. -/
def lowE (l : List Ent) : Int := l.foldl (fun _ e => e.term) 1
theorem lowE_snoc (l : List Ent) (e : Ent) : lowE (l ++ [e]) = e.term := by simp [lowE]
def clE (T : Int) (e : Ent) : Ent := if e.term > T then ⟨T, e.m⟩ else e
/-- A row clamped so far. -/
def clM (T : Int) (M : List Ent) (i : Nat) : List Ent := (M.take i).map (clE T) ++ M.drop i
theorem clM_zero (T : Int) (M : List Ent) : clM T M 0 = M := by simp [clM]
theorem clM_at {T : Int} {M : List Ent} {i : Nat} {e : Ent} (h : M[i]? = some e) : (clM T M i)[i]? = some e := by
  have hi := (List.getElem?_eq_some_iff.1 h).1
  unfold clM
  have h1 : ((M.take i).map (clE T)).length = i := by simp; omega
  rw [List.getElem?_append_right (by omega), h1, Nat.sub_self, List.getElem?_drop, Nat.add_zero, h]
theorem clM_set {T : Int} {M : List Ent} {i : Nat} {e : Ent} (h : M[i]? = some e) : (clM T M i).set i (clE T e) = clM T M (i + 1) := by
  have hi := (List.getElem?_eq_some_iff.1 h).1
  have e1 : M[i] = e := by rw [List.getElem?_eq_getElem hi] at h; exact Option.some.inj h
  unfold clM
  have h1 : ((M.take i).map (clE T)).length = i := by simp; omega
  rw [List.set_append_right _ _ (by omega), h1, Nat.sub_self, List.drop_eq_getElem_cons hi, List.set_cons_zero, List.take_add_one, h]
  simp
theorem List.set_getElem?_self' {α : Type} {l : List α} {i : Nat} {x : α} (h : l[i]? = some x) : l.set i x = l := by
  have hi := (List.getElem?_eq_some_iff.1 h).1
  have e : l[i] = x := (List.getElem?_eq_some_iff.1 h).2
  rw [← e]
  exact List.set_getElem_self hi
theorem clM_len (T : Int) (M : List Ent) (i : Nat) : (clM T M i).length = M.length := by unfold clM; simp; omega
theorem set_map {α β : Type} (f : α → β) (l : List α) (i : Nat) (x : α) : (l.map f).set i (f x) = (l.set i x).map f := List.map_set.symm
def nM (bs : List Int) (a n : Int) (s : Stb) : List Ent := deL bs (pkX bs (nQ bs (nP bs a s) s.log.length) (n + 1)).toNat (pkP (nQ bs (nP bs a s) s.log.length) (n + 1)) (lowE (s.log.take (nK bs (nP bs a s) s.log.length).toNat))
def nE (bs : List Int) (a n : Int) (s : Stb) : List Ent := s.log.take (nK bs (nP bs a s) s.log.length).toNat ++ (if 0 < nT bs a s then (nM bs a n s).map (clE (nT bs a s)) else [])
def nZ (bs : List Int) (a n : Int) (s : Stb) : Int := if 0 < nT bs a s then deN bs (pkX bs (nQ bs (nP bs a s) s.log.length) (n + 1)).toNat (pkP (nQ bs (nP bs a s) s.log.length) (n + 1)) else nQ bs (nP bs a s) s.log.length
set_option maxHeartbeats 64000000 in
theorem nx2_tc (bs : List Int) (a n : Int) (s : Stb) (hb : okS bs) (h0 : 0 ≤ a) (h1 : a ≤ 1099510000000) (hn : 0 ≤ n) (hn2 : n ≤ 100) (hl : s.log.length ≤ 2000) : TC Tryd.prog 98 [.c (.ptr 1 0), .agg s.cv, int n] [(1, .cells [.t (.sl 1 (bs.map bTr)), ci a])] 2
    (.agg [ci (nT bs a s), ci (nV bs a s), .own 2 0 (nE bs a n s).length]) [(1, .cells [.t (.sl 1 (bs.map bTr)), ci (nZ bs a n s)]), (2, .arr 98 7 ((nE bs a n s).map Ent.tr))] 3 := by
  have ok : ∀ q : Int, 0 ≤ q → q ≤ 1099511000000 → okW bs q = True := fun q hq0 hq1 => eq_true ⟨hb, hq0, by omega⟩
  have q1 := pkP_le a 2
  have q2 := pkP_le (pkP a 2) 2
  have q3 := nP_le bs a s
  have q4 := nQ_le bs (nP bs a s) s.log.length
  have q5 := nK_rng hb (q := nP bs a s) (n := s.log.length) (by omega) (by omega) (by omega)
  simp only [nE, nZ, nM]
  obtain ⟨T, hT⟩ : ∃ T, T = nT bs a s := ⟨_, rfl⟩
  obtain ⟨V, hV⟩ : ∃ V, V = nV bs a s := ⟨_, rfl⟩
  obtain ⟨p, hP⟩ : ∃ p, p = nP bs a s := ⟨_, rfl⟩
  rw [← hT, ← hV, ← hP]
  rw [← hP] at q3 q4 q5
  obtain ⟨t, v, l⟩ := s
  simp only at hl q4 q5 ⊢
  simp only [Stb.cv]
  obtain ⟨q, hQ⟩ : ∃ q, q = nQ bs p l.length := ⟨_, rfl⟩
  obtain ⟨K, hKK⟩ : ∃ K, K = nK bs p l.length := ⟨_, rfl⟩
  rw [← hQ, ← hKK]
  rw [← hQ] at q4
  rw [← hKK] at q5
  refine tc_cell tabOk Tryd.func98 rfl 124 rfl (Nat.le_of_ble_eq_true rfl) (by decide) [(6, some 155)] rfl dom1 ?_
  intro w0 E0
  have kOk := kD10
  refine am_rs tabOk kOk rfl fun KX Q1 hK => ?_
  refine go ?_
  refine hK _ ?_
  clear hK KX Q1
  refine am_rs tabOk kOk rfl fun KX Q1 hK => ?_
  refine go ?_
  refine hK _ ?_
  clear hK KX Q1
  refine am_scut True ⟨[(0, .c (.ptr 1 0)), (2, int n), (4, .c (.ptr 2 0)), (6, .c (.ptr 3 0)), (7, .c (.ptr 4 0))], [(1, .cells [.t (.sl 1 (bs.map bTr)), ci p]), (2, .cells [ci t, ci v, .t (.sl 7 (l.map Ent.tr))]), (3, .cells [ci 0, ci 0, .t (.v (.slice none 0 0))]), (4, .cells [ci T, ci V, .t (.v (.slice none 0 0))])], 5⟩ (fun _ => ?_) fun KC hKC => ?_
  rotate_left
  · have fin : ∀ x : Int, x = x := fun _ => rfl
    by_cases c1 : nC bs a ⟨t, v, l⟩
    · have e1 : T = (if nX bs a ⟨t, v, l⟩ < 1073741824 then nX bs a ⟨t, v, l⟩ else 1073741824) := by rw [hT]; simp [nT, c1]
      have e2 : V = pkX bs (pkP (pkP a 2) 2) 8 := by rw [hV]; simp [nV, c1]
      have e3 : p = pkP (pkP (pkP a 2) 2) 8 := by rw [hP]; simp [nP, c1]
      have hp := (show okW bs a = True ∧ okW bs (pkP a 2) = True ∧ okW bs (pkP (pkP a 2) 2) = True ∧ (pkX bs a 2 == 0) = true ∧ (t < 1073741824) = True from ⟨ok _ h0 (by omega), ok _ (by omega) (by omega), ok _ (by omega) (by omega), by simpa using c1.1, eq_true c1.2⟩)
      refine wk1 ?_
      refine hKC _ [(1, 1), (2, 2), (3, 3), (4, 4)] [0, 2, 4, 6, 7] 5 True.intro rfl ?_
      rw [e1, e2, e3]
      first | rfl | (refine go ?_; rfl)
    · have e1 : T = t := by rw [hT]; simp [nT, c1]
      by_cases c2 : nD ⟨t, v, l⟩
      · have e2 : V = pkX bs (pkP a 2) 8 := by rw [hV]; simp [nV, c1, c2]
        have e3 : p = pkP (pkP a 2) 8 := by rw [hP]; simp [nP, c1, c2]
        by_cases c3 : pkX bs a 2 = 0
        · have hp := (show okW bs a = True ∧ okW bs (pkP a 2) = True ∧ (pkX bs a 2 == 0) = true ∧ (t < 1073741824) = False ∧ (t > 0) = True ∧ (v == 0) = true from ⟨ok _ h0 (by omega), ok _ (by omega) (by omega), by simpa using c3, eq_false (fun h => c1 ⟨c3, h⟩), eq_true c2.1, by simpa using c2.2⟩)
          refine wk1 ?_
          refine hKC _ [(1, 1), (2, 2), (3, 3), (4, 4)] [0, 2, 4, 6, 7] 5 True.intro rfl ?_
          rw [e1, e2, e3]
          first | rfl | (refine go ?_; rfl)
        · have hp := (show okW bs a = True ∧ okW bs (pkP a 2) = True ∧ (pkX bs a 2 == 0) = false ∧ (t > 0) = True ∧ (v == 0) = true from ⟨ok _ h0 (by omega), ok _ (by omega) (by omega), by simpa using c3, eq_true c2.1, by simpa using c2.2⟩)
          refine wk1 ?_
          refine hKC _ [(1, 1), (2, 2), (3, 3), (4, 4)] [0, 2, 4, 6, 7] 5 True.intro rfl ?_
          rw [e1, e2, e3]
          first | rfl | (refine go ?_; rfl)
      · have e2 : V = v := by rw [hV]; simp [nV, c1, c2]
        have e3 : p = pkP a 2 := by rw [hP]; simp [nP, c1, c2]
        by_cases c3 : pkX bs a 2 = 0
        · by_cases c4 : 0 < t
          · have hp := (show okW bs a = True ∧ okW bs (pkP a 2) = True ∧ (pkX bs a 2 == 0) = true ∧ (t < 1073741824) = False ∧ (t > 0) = True ∧ (v == 0) = false from ⟨ok _ h0 (by omega), ok _ (by omega) (by omega), by simpa using c3, eq_false (fun h => c1 ⟨c3, h⟩), eq_true c4, by simp only [beq_eq_false_iff_ne, ne_eq]; exact fun h => c2 ⟨c4, h⟩⟩)
            refine wk1 ?_
            refine hKC _ [(1, 1), (2, 2), (3, 3), (4, 4)] [0, 2, 4, 6, 7] 5 True.intro rfl ?_
            rw [e1, e2, e3]
            first | rfl | (refine go ?_; rfl)
          · have hp := (show okW bs a = True ∧ okW bs (pkP a 2) = True ∧ (pkX bs a 2 == 0) = true ∧ (t < 1073741824) = False ∧ (t > 0) = False from ⟨ok _ h0 (by omega), ok _ (by omega) (by omega), by simpa using c3, eq_false (fun h => c1 ⟨c3, h⟩), eq_false c4⟩)
            refine wk1 ?_
            refine hKC _ [(1, 1), (2, 2), (3, 3), (4, 4)] [0, 2, 4, 6, 7] 5 True.intro rfl ?_
            rw [e1, e2, e3]
            first | rfl | (refine go ?_; rfl)
        · by_cases c4 : 0 < t
          · have hp := (show okW bs a = True ∧ okW bs (pkP a 2) = True ∧ (pkX bs a 2 == 0) = false ∧ (t > 0) = True ∧ (v == 0) = false from ⟨ok _ h0 (by omega), ok _ (by omega) (by omega), by simpa using c3, eq_true c4, by simp only [beq_eq_false_iff_ne, ne_eq]; exact fun h => c2 ⟨c4, h⟩⟩)
            refine wk1 ?_
            refine hKC _ [(1, 1), (2, 2), (3, 3), (4, 4)] [0, 2, 4, 6, 7] 5 True.intro rfl ?_
            rw [e1, e2, e3]
            first | rfl | (refine go ?_; rfl)
          · have hp := (show okW bs a = True ∧ okW bs (pkP a 2) = True ∧ (pkX bs a 2 == 0) = false ∧ (t > 0) = False from ⟨ok _ h0 (by omega), ok _ (by omega) (by omega), by simpa using c3, eq_false c4⟩)
            refine wk1 ?_
            refine hKC _ [(1, 1), (2, 2), (3, 3), (4, 4)] [0, 2, 4, 6, 7] 5 True.intro rfl ?_
            rw [e1, e2, e3]
            first | rfl | (refine go ?_; rfl)
  clear hT hV hP
  refine am_rs tabOk kOk rfl fun KX Q1 hK => ?_
  refine go ?_
  refine hK _ ?_
  clear hK KX Q1
  refine am_scut True ⟨[(0, .c (.ptr 1 0)), (2, int n), (4, .c (.ptr 2 0)), (6, .c (.ptr 3 0)), (7, .c (.ptr 4 0)), (8, int K)], [(1, .cells [.t (.sl 1 (bs.map bTr)), ci q]), (2, .cells [ci t, ci v, .t (.sl 7 (l.map Ent.tr))]), (3, .cells [ci 0, ci 0, .t (.v (.slice none 0 0))]), (4, .cells [ci T, ci V, .t (.v (.slice none 0 0))])], 5⟩ (fun _ => ?_) fun KC hKC => ?_
  rotate_left
  · have hw : IntKind.i64.wrap ((l.length : Int) + 1) = (l.length : Int) + 1 := wrapN (by omega) (by omega)
    have r1 := pkP_le p 2
    by_cases c1 : pkX bs p 2 = 0
    · have e1 : K = pkX bs (pkP p 2) ((l.length : Int) + 1) := by rw [hKK]; simp [nK, c1]
      have e2 : q = pkP (pkP p 2) ((l.length : Int) + 1) := by rw [hQ]; simp [nQ, c1]
      have hp := (show okW bs p = True ∧ okW bs (pkP p 2) = True ∧ (pkX bs p 2 == 0) = true ∧ IntKind.i64.wrap ((l.length : Int) + 1) = (l.length : Int) + 1 ∧ (1 ≤ (l.length : Int) + 1) = True ∧ ((l.length : Int) + 1 ≤ 1073741824) = True from ⟨ok _ (by omega) (by omega), ok _ (by omega) (by omega), by simpa using c1, hw, eq_true (by omega), eq_true (by omega)⟩)
      refine wk1 ?_
      refine hKC _ [(1, 1), (2, 2), (3, 3), (4, 4)] [0, 2, 4, 6, 7, 8] 5 True.intro rfl ?_
      rw [e1, e2]
      first | rfl | (refine go ?_; rfl)
    · have e1 : K = l.length := by rw [hKK]; simp [nK, c1]
      have e2 : q = pkP p 2 := by rw [hQ]; simp [nQ, c1]
      have hp := (show okW bs p = True ∧ (pkX bs p 2 == 0) = false from ⟨ok _ (by omega) (by omega), by simpa using c1⟩)
      refine wk1 ?_
      refine hKC _ [(1, 1), (2, 2), (3, 3), (4, 4)] [0, 2, 4, 6, 7, 8] 5 True.intro rfl ?_
      rw [e1, e2]
      first | rfl | (refine go ?_; rfl)
  clear hQ hKK
  refine am_rs tabOk kOk rfl fun KX Q1 hK => ?_
  refine go ?_
  refine hK _ ?_
  clear hK KX Q1
  refine am_rs tabOk kOk rfl fun KX Q1 hK => ?_
  refine go ?_
  refine hK _ ?_
  clear hK KX Q1
  refine am_scut True ⟨[(0, .c (.ptr 1 0)), (2, int n), (4, .c (.ptr 2 0)), (6, .c (.ptr 3 0)), (7, .c (.ptr 4 0)), (9, int (lowE (l.take K.toNat))), (10, .c (.own 5 0 (l.take K.toNat).length))], [(1, .cells [.t (.sl 1 (bs.map bTr)), ci q]), (2, .cells [ci t, ci v, .t (.sl 7 (l.map Ent.tr))]), (3, .cells [ci 0, ci 0, .t (.v (.slice none 0 0))]), (4, .cells [ci T, ci V, .t (.v (.slice none 0 0))]), (5, .arr 98 7 ((l.take K.toNat).map Ent.tr))], 6⟩ (fun _ => ?_) fun KC hKC => ?_
  rotate_left
  · refine wk ?_
    refine am_tidy [(1, 1), (2, 2), (3, 3), (4, 4), (5, 5)] [0, 2, 4, 6, 7, 8, 9, 10, 11] 6 rfl ?_
    refine go ?_
    refine am_loop (K.toNat + 1) ?_
    suffices key : ∀ (d k : Nat) (u : Int) (X : List Ent), k + d = K.toNat → X = l.take k → u = lowE X → amR Tryd.prog _ _ _ (d + 1) ⟨[(0, .c (.ptr 1 0)), (2, int n), (4, .c (.ptr 2 0)), (6, .c (.ptr 3 0)), (7, .c (.ptr 4 0)), (8, int K), (9, int u), (10, .c (.own 5 0 X.length)), (11, int (k : Nat))], [(1, .cells [.t (.sl 1 (bs.map bTr)), ci q]), (2, .cells [ci t, ci v, .t (.sl 7 (l.map Ent.tr))]), (3, .cells [ci 0, ci 0, .t (.v (.slice none 0 0))]), (4, .cells [ci T, ci V, .t (.v (.slice none 0 0))]), (5, .arr 98 7 (X.map Ent.tr))], 6⟩ from key K.toNat 0 1 [] (by simp) (by simp) rfl
    intro d
    induction d with
    | zero =>
      intro k u X hk hX hu
      have hk' : k = K.toNat := hk
      subst hu
      subst hX
      subst hk'
      have hp := (show ((K.toNat : Int) < K) = False from eq_false (by omega))
      refine amR_succ ?_
      refine wk1 ?_
      refine hKC _ [(1, 1), (2, 2), (3, 3), (4, 4), (5, 5)] [0, 2, 4, 6, 7, 9, 10] 6 True.intro rfl ?_
      first | rfl | (refine go ?_; rfl)
    | succ d ih =>
      intro k u X hk hX hu
      obtain ⟨e, he⟩ : ∃ e, l[k]? = some e := ⟨l[k]'(by omega), List.getElem?_eq_getElem (by omega)⟩
      have hX2 : X ++ [e] = l.take (k + 1) := by rw [List.take_add_one, he, hX]; rfl
      have hXl : X.length ≤ 2000 := by rw [hX, List.length_take]; omega
      have ihk := ih (k + 1) e.term (X ++ [e]) (by omega) hX2 (lowE_snoc X e).symm
      clear ih
      have hp := (show ((k : Int) < K) = True ∧ (k < l.length) = True ∧ (l.map Ent.tr)[k]? = some e.tr ∧ IntKind.i64.wrap ((k : Int) + 1) = ((k + 1 : Nat) : Int) ∧ (X.length + 1 ≤ maxLen) = True ∧ ((X.length + 1) * 80 ≤ 140737488355328) = True from
        ⟨eq_true (by omega), eq_true (by omega), by rw [List.getElem?_map, he]; rfl, by rw [wrapN (by omega) (by omega)]; rfl, eq_true (by unfold maxLen; omega), eq_true (by omega)⟩)
      obtain ⟨et, ⟨ea, eb, eo, ex, ey, ez⟩⟩ := e
      simp only [Ent.tr] at hp
      refine amR_succ ?_
      refine wk1 ?_
      refine amR_tidy [(1, 1), (2, 2), (3, 3), (4, 4), (7, 5)] [0, 2, 4, 6, 7, 8, 9, 10, 11] 6 rfl ?_
      refine go1 ?_
      refine amR_st ?_ ihk
      simp [Ent.tr]
  have hXl : (l.take K.toNat).length ≤ 2000 := by rw [List.length_take]; omega
  generalize lowE (l.take K.toNat) = u
  generalize l.take K.toNat = X at hXl ⊢
  by_cases hTp : 0 < T
  rotate_left
  · have hp := (show (T > 0) = False from eq_false hTp)
    rw [if_neg hTp, if_neg hTp, List.append_nil]
    refine wk1 ?_
    refine am_retC [(1, 1), (5, 2)] rfl ?_ rfl rfl
    first | refine go ?_ | rfl
  rw [if_pos hTp, if_pos hTp]
  have r2 := pkX_rng (bs := bs) (a := q) (n := n + 1) ⟨hb, by omega, by omega⟩ (by omega)
  have r3 := pkP_le q (n + 1)
  have hml := deL_len bs (pkX bs q (n + 1)).toNat (pkP q (n + 1)) u
  have hw : IntKind.i64.wrap (n + 1) = n + 1 := wrapN (by omega) (by omega)
  generalize hM : deL bs (pkX bs q (n + 1)).toNat (pkP q (n + 1)) u = M at hml ⊢
  generalize hZ : deN bs (pkX bs q (n + 1)).toNat (pkP q (n + 1)) = Z
  refine am_scut True ⟨[(6, .c (.ptr 3 0)), (7, .c (.ptr 4 0)), (10, .c (.own 5 0 (X ++ M.map (clE T)).length))], [(1, .cells [.t (.sl 1 (bs.map bTr)), ci Z]), (2, .cells [ci t, ci v, .t (.sl 7 (l.map Ent.tr))]), (3, .cells [ci 0, ci 0, .t (.v (.slice none 0 0))]), (4, .cells [ci T, ci V, .t (.v (.slice none 0 0))]), (5, .arr 98 7 ((X ++ M.map (clE T)).map Ent.tr))], 6⟩ (fun _ => ?_) fun KC hKC => ?_
  rotate_left
  · have hp := (show (T > 0) = True ∧ IntKind.i64.wrap (n + 1) = n + 1 ∧ okW bs q = True ∧ (1 ≤ n + 1) = True ∧ (n + 1 ≤ 1073741824) = True ∧ okW bs (pkP q (n + 1)) = True ∧ (pkP q (n + 1) ≤ 1099511000000) = True ∧ (0 ≤ pkX bs q (n + 1)) = True ∧ (pkX bs q (n + 1) ≤ 1000) = True ∧ deL bs (pkX bs q (n + 1)).toNat (pkP q (n + 1)) u = M ∧ deN bs (pkX bs q (n + 1)).toNat (pkP q (n + 1)) = Z from
      ⟨eq_true hTp, hw, ok _ (by omega) (by omega), eq_true (by omega), eq_true (by omega), ok _ (by omega) (by omega), eq_true (by omega), eq_true (by omega), eq_true (by omega), hM, hZ⟩)
    refine wk1 ?_
    refine am_tidy [(1, 1), (2, 2), (3, 3), (4, 4), (5, 5), (6, 6)] [6, 7, 10, 12, 13] 7 rfl ?_
    refine go1 ?_
    clear hp hM hZ
    refine am_loop (M.length + 1) ?_
    have hMl : M.length ≤ 200 := by omega
    suffices key : ∀ (d i : Nat) (E : List Ent), i + d = M.length → E = X ++ (M.take i).map (clE T) → amR Tryd.prog _ _ _ (d + 1) ⟨[(6, .c (.ptr 3 0)), (7, .c (.ptr 4 0)), (10, .c (.own 5 0 E.length)), (12, .c (.own 6 0 M.length)), (13, int (i : Nat))], [(1, .cells [.t (.sl 1 (bs.map bTr)), ci Z]), (2, .cells [ci t, ci v, .t (.sl 7 (l.map Ent.tr))]), (3, .cells [ci 0, ci 0, .t (.v (.slice none 0 0))]), (4, .cells [ci T, ci V, .t (.v (.slice none 0 0))]), (5, .arr 98 7 (E.map Ent.tr)), (6, .arr 98 7 ((clM T M i).map Ent.tr))], 7⟩ from by
      have := key M.length 0 X (by simp) (by simp)
      rw [clM_zero] at this
      exact this
    intro d
    induction d with
    | zero =>
      intro i E hi hE
      have hi' : i = M.length := hi
      rw [hi', List.take_length] at hE
      subst hE
      have hp := (show ((i : Int) < (M.length : Int)) = False from eq_false (by omega))
      refine amR_succ ?_
      refine wk1 ?_
      refine hKC _ [(1, 1), (2, 2), (3, 3), (4, 4), (5, 5)] [6, 7, 10] 6 True.intro rfl ?_
      first | rfl | (refine go ?_; rfl)
    | succ d ih =>
      intro i E hi hE
      obtain ⟨e, he⟩ : ∃ e, M[i]? = some e := ⟨M[i]'(by omega), List.getElem?_eq_getElem (by omega)⟩
      have hE2 : E ++ [clE T e] = X ++ (M.take (i + 1)).map (clE T) := by rw [List.take_add_one, he, hE]; simp
      have hEl : E.length ≤ 2200 := by rw [hE]; simp; omega
      have ihk := ih (i + 1) (E ++ [clE T e]) (by omega) hE2
      clear ih
      have g1 : ((clM T M i).map Ent.tr)[i]? = some e.tr := by rw [List.getElem?_map, clM_at he]; rfl
      have g2 : ((clM T M i).map Ent.tr).set i (clE T e).tr = (clM T M (i + 1)).map Ent.tr := by rw [set_map, clM_set he]
      have g3 : ((clM T M (i + 1)).map Ent.tr)[i]? = some (clE T e).tr := by rw [← g2, List.getElem?_set_self]; simp [clM_len]; omega
      have g4 := clM_len T M i
      have g5 := clM_len T M (i + 1)
      have hp := (show ((i : Int) < (M.length : Int)) = True ∧ (i < M.length) = True ∧ ((E.length : Int) < 4096) = True ∧ ((clM T M i).map Ent.tr)[i]? = some e.tr ∧ (clM T M i).length = M.length ∧ (clM T M (i + 1)).length = M.length ∧ IntKind.i64.wrap ((i : Int) + 1) = ((i + 1 : Nat) : Int) ∧ (E.length + 1 ≤ maxLen) = True ∧ ((E.length + 1) * 80 ≤ 140737488355328) = True from
        ⟨eq_true (by omega), eq_true (by omega), eq_true (by omega), g1, g4, g5, by rw [wrapN (by omega) (by omega)]; rfl, eq_true (by unfold maxLen; omega), eq_true (by omega)⟩)
      by_cases c : e.term > T
      · have ec : clE T e = ⟨T, e.m⟩ := by simp [clE, c]
        rw [ec] at ihk g2 g3
        have hp := And.intro hp (And.intro (eq_true c) (And.intro g2 g3))
        obtain ⟨et, ⟨ea, eb, eo, ex, ey, ez⟩⟩ := e
        simp only [Ent.tr] at hp
        refine amR_succ ?_
        refine wk1 ?_
        refine amR_tidy [(1, 1), (2, 2), (3, 3), (4, 4), (8, 5), (6, 6)] [6, 7, 10, 12, 13] 7 rfl ?_
        refine go1 ?_
        refine amR_st ?_ ihk
        simp [Ent.tr]
      · have ec : clE T e = e := by simp [clE, c]
        rw [ec] at ihk g2 g3
        have g6 : (clM T M i).map Ent.tr = (clM T M (i + 1)).map Ent.tr := by
          rw [← g2]
          exact (List.set_getElem?_self' g1).symm
        have hp := And.intro hp (eq_false c)
        rw [← g6] at ihk
        obtain ⟨et, ⟨ea, eb, eo, ex, ey, ez⟩⟩ := e
        simp only [Ent.tr] at hp
        refine amR_succ ?_
        refine wk1 ?_
        refine amR_tidy [(1, 1), (2, 2), (3, 3), (4, 4), (8, 5), (6, 6)] [6, 7, 10, 12, 13] 7 rfl ?_
        refine go1 ?_
        refine amR_st ?_ ihk
        simp [Ent.tr]
  refine wk ?_
  refine am_retC [(1, 1), (5, 2)] rfl ?_ rfl rfl
  first | refine go ?_ | rfl
end Go.Proofs.YtaolgdpkcbfocaaDoorA
/- Draws: a record spoilt; what is known of the states drawn; a nil row in a cell. -/
namespace Go.Proofs.YtaolgdpkcbfocaaDoorA
open Go.Proofs
set_option autoImplicit false
set_option linter.unusedVariables false
set_option linter.unusedSimpArgs false
set_option maxRecDepth 4000
section
variable {P : Program} {C : Ctx} {Q : Exit → St → Prop} {st : St} {a : Act} {w : World}
/-- A nil slice in a variable is a row that came in with nothing in it. -/
theorem Rel.nilCell (h : Rel C st a w) {id j : Nat} {xs : List CV} (ho : st.obj id = some (.cells xs)) (hj : xs[j]? = some (.t (.v (.slice none 0 0)))) (sz : Nat) : Rel C (st.setObj id (.cells (xs.set j (.t (.sl sz []))))) a w := by
  obtain ⟨E, h⟩ := h
  refine ⟨E, { h with objs := fun i o hi => ?_ }⟩
  have hi' : look i (upd id (.cells (xs.set j (.t (.sl sz [])))) st.objs) = some o := hi
  rw [look_upd] at hi'
  split at hi'
  · rename_i e
    subst e
    cases hi'
    obtain ⟨g, base, cur, ty, k1, k2, k3, k4⟩ := h.objs _ _ ho
    refine ⟨g, base, cur, ty, k1, k2, by simpa using k3, fun q x hx => ?_⟩
    rw [List.getElem?_set] at hx
    split at hx
    · rename_i e
      subst e
      split at hx
      · cases hx
        obtain ⟨m1, v, m2, m3, m4⟩ := k4 _ _ hj
        refine ⟨m1, v, m2, m3, ?_⟩
        have m5 : RO w (fun b o => E.own b o = none) v (.v (.slice none 0 0)) := m4
        cases m5
        exact RO.sl none 0 sz [] 0 0 (fun _ _ => .bool false) (Nat.le_refl _) (Nat.zero_le _) (fun x hx => by cases hx) (fun h => (h rfl).elim) (fun i j hi => absurd hi (Nat.not_lt_zero _)) (fun i x hx => by simp at hx)
      · cases hx
    · exact k4 _ _ hx
  · exact h.objs _ _ hi'
theorem am_nilCell {c : Code} (id j : Nat) {xs : List CV} (sz : Nat) (ho : st.obj id = some (.cells xs)) (hj : xs[j]? = some (.t (.v (.slice none 0 0)))) (h : am P C c Q (st.setObj id (.cells (xs.set j (.t (.sl sz [])))))) : am P C c Q st :=
  am_weak (fun a w hr => Rel.nilCell hr ho hj sz) h
end
theorem plan0_tc (s u : Stb) (hl : s.log.length ≤ 1048576) (hl2 : u.log.length ≤ 1048576) (h : planC s u ≠ 0) : TC Tryd.prog 99 [.agg s.cv, .agg u.cv] [] 1 (.agg [ci (planC s u), .t (.v (.slice none 0 0))]) [] 1 := by
  have hf : fitR s ⟨1, u.term, u.vote, 0, noEnt⟩ = fitB s u := rfl
  by_cases h1 : stF s = true
  · by_cases h2 : stF u = true
    · by_cases h3 : fitB s u = true
      · exact absurd (by simp [planC, h1, h2, h3]) h
      · have e : planC s u = 3 := by simp [planC, h1, h2, h3]
        rw [e]
        have h3' : fitB s u = false := by simpa using h3
        rw [h3'] at hf
        obtain ⟨t, v, l⟩ := s
        obtain ⟨t', v', l'⟩ := u
        simp only at hl hl2 hf
        simp only [noEnt] at hf
        simp only [Stb.cv]
        refine tc_cell tabOk Tryd.func99 rfl 102 rfl (Nat.le_of_ble_eq_true rfl) (by decide) [(4, some 158)] rfl (by intro id x h; cases h) ?_
        intro w0 E0
        have kOk := kD9
        have hp := (show (l.length ≤ 1048576) = True ∧ (l'.length ≤ 1048576) = True ∧ stF ⟨t, v, l⟩ = true ∧ stF ⟨t', v', l'⟩ = true ∧ fitR ⟨t, v, l⟩ ⟨1, t', v', 0, ⟨0, ⟨0, 0, 0, ⟨#[]⟩, ⟨#[]⟩, ⟨#[]⟩⟩⟩⟩ = false from ⟨eq_true hl, eq_true hl2, h1, h2, hf⟩)
        refine wk1 ?_
        refine am_retC [] rfl ?_ rfl rfl
        first | refine go ?_ | rfl
    · have e : planC s u = 2 := by simp [planC, h1, h2]
      rw [e]
      have h2' : stF u = false := by simpa using h2
      obtain ⟨t, v, l⟩ := s
      obtain ⟨t', v', l'⟩ := u
      simp only at hl hl2
      simp only [Stb.cv]
      refine tc_cell tabOk Tryd.func99 rfl 102 rfl (Nat.le_of_ble_eq_true rfl) (by decide) [(4, some 158)] rfl (by intro id x h; cases h) ?_
      intro w0 E0
      have kOk := kD9
      have hp := (show (l.length ≤ 1048576) = True ∧ (l'.length ≤ 1048576) = True ∧ stF ⟨t, v, l⟩ = true ∧ stF ⟨t', v', l'⟩ = false from ⟨eq_true hl, eq_true hl2, h1, h2'⟩)
      refine wk1 ?_
      refine am_retC [] rfl ?_ rfl rfl
      first | refine go ?_ | rfl
  · have e : planC s u = 1 := by simp [planC, h1]
    rw [e]
    have h1' : stF s = false := by simpa using h1
    obtain ⟨t, v, l⟩ := s
    obtain ⟨t', v', l'⟩ := u
    simp only at hl hl2
    simp only [Stb.cv]
    refine tc_cell tabOk Tryd.func99 rfl 102 rfl (Nat.le_of_ble_eq_true rfl) (by decide) [(4, some 158)] rfl (by intro id x h; cases h) ?_
    intro w0 E0
    have kOk := kD9
    have hp := (show (l.length ≤ 1048576) = True ∧ stF ⟨t, v, l⟩ = false from ⟨eq_true hl, h1'⟩)
    refine wk1 ?_
    refine am_retC [] rfl ?_ rfl rfl
    first | refine go ?_ | rfl
def nxS (bs : List Int) (a : Int) (s : Stb) : Stb := ⟨nT bs a s, nV bs a s, nE bs a 4 s⟩
theorem nx3_tc (bs : List Int) (a : Int) (s : Stb) (hw : okW bs a) (h1 : a ≤ 1099510000000) (hl : s.log.length ≤ 2000) : TC Tryd.prog 98 [.c (.ptr 1 0), .agg s.cv, int 4] [(1, .cells [.t (.sl 1 (bs.map bTr)), ci a])] 2
    (.agg (nxS bs a s).cv) [(1, .cells [.t (.sl 1 (bs.map bTr)), ci (nZ bs a 4 s)])] 2 :=
  tc_freeze1 (xs := [.v (.int .i64 (nT bs a s)), .v (.int .i64 (nV bs a s))]) (ys := [.sl 1 (bs.map bTr), .v (.int .i64 (nZ bs a 4 s))]) (nx2_tc bs a 4 s hw.1 hw.2.1 h1 (by omega) (by omega) hl) (by simp [nxS])
theorem nZ_le (bs : List Int) (a : Int) (s : Stb) (hw : okW bs a) (h1 : a ≤ 1099510000000) : a ≤ nZ bs a 4 s ∧ nZ bs a 4 s ≤ a + 200 := by
  obtain ⟨hb, h0, _⟩ := hw
  have q3 := nP_le bs a s
  have q4 := nQ_le bs (nP bs a s) s.log.length
  have r2 := pkX_rng (bs := bs) (a := nQ bs (nP bs a s) s.log.length) (n := 4 + 1) ⟨hb, by omega, by omega⟩ (by omega)
  have r3 := pkP_le (nQ bs (nP bs a s) s.log.length) (4 + 1)
  have r4 := deN_le bs (pkX bs (nQ bs (nP bs a s) s.log.length) (4 + 1)).toNat (pkP (nQ bs (nP bs a s) s.log.length) (4 + 1))
  unfold nZ
  split <;> omega
theorem nE_len (bs : List Int) (a : Int) (s : Stb) (hw : okW bs a) (h1 : a ≤ 1099510000000) : (nE bs a 4 s).length ≤ s.log.length + 4 := by
  obtain ⟨hb, h0, _⟩ := hw
  have q3 := nP_le bs a s
  have q4 := nQ_le bs (nP bs a s) s.log.length
  have r2 := pkX_rng (bs := bs) (a := nQ bs (nP bs a s) s.log.length) (n := 4 + 1) ⟨hb, by omega, by omega⟩ (by omega)
  have hm := deL_len bs (pkX bs (nQ bs (nP bs a s) s.log.length) (4 + 1)).toNat (pkP (nQ bs (nP bs a s) s.log.length) (4 + 1)) (lowE (s.log.take (nK bs (nP bs a s) s.log.length).toNat))
  unfold nE
  rw [List.length_append, List.length_take]
  split
  · unfold nM
    rw [List.length_map, hm]
    omega
  · simp
    omega
/-! ### A record spoilt -/
def badV (bs : List Int) (a : Int) : Int := IntKind.i64.wrap (pkX bs (pkP a 6) 12 - 2)
def badP (a : Int) : Int := pkP (pkP a 6) 12
def badF (bs : List Int) (a : Int) (r : Rec) : Rec :=
  if pkX bs a 6 = 0 then { r with kd := IntKind.i64.wrap (pkX bs (badP a) 6 - 1) } else if pkX bs a 6 = 1 then { r with te := badV bs a } else if pkX bs a 6 = 2 then { r with vo := badV bs a } else if pkX bs a 6 = 3 then { r with ix := badV bs a }
  else if pkX bs a 6 = 4 then { r with ix := IntKind.i64.wrap (4096 + pkX bs (badP a) 2) } else { r with e := ⟨badV bs a, r.e.m⟩ }
def badA (bs : List Int) (a : Int) : Int := if pkX bs a 6 = 0 then pkP (badP a) 6 else if pkX bs a 6 = 4 then pkP (badP a) 2 else badP a
theorem badA_le (bs : List Int) (a : Int) : a ≤ badA bs a ∧ badA bs a ≤ a + 12 := by
  have h1 := pkP_le a 6
  have h2 := pkP_le (pkP a 6) 12
  have h3 := pkP_le (badP a) 6
  have h4 := pkP_le (badP a) 2
  have h5 : badP a = pkP (pkP a 6) 12 := rfl
  unfold badA
  (repeat' split) <;> omega
set_option maxHeartbeats 16000000 in
theorem bad_tc (bs : List Int) (a : Int) (r : Rec) (hb : okS bs) (h0 : 0 ≤ a) (h1 : a ≤ 1099510000000) : TC Tryd.prog 100 [.c (.ptr 1 0), .agg r.cv] [(1, .cells [.t (.sl 1 (bs.map bTr)), ci a])] 2 (.agg (badF bs a r).cv) [(1, .cells [.t (.sl 1 (bs.map bTr)), ci (badA bs a)])] 2 := by
  have ok : ∀ q : Int, 0 ≤ q → q ≤ 1099511000000 → okW bs q = True := fun q hq0 hq1 => eq_true ⟨hb, hq0, by omega⟩
  have q1 := pkP_le a 6
  have q2 := pkP_le (pkP a 6) 12
  have hbp : pkP (pkP a 6) 12 = badP a := rfl
  have hbv : IntKind.i64.wrap (pkX bs (pkP a 6) 12 - 2) = badV bs a := rfl
  have rg := pkX_rng (bs := bs) (a := a) (n := 6) ⟨hb, h0, by omega⟩ (by omega)
  obtain ⟨kd, te, vo, ix, ⟨t, ⟨ca, cb, co, x, y, z⟩⟩⟩ := r
  simp only [Rec.cv, Cm.cv]
  have base := (show okW bs a = True ∧ okW bs (pkP a 6) = True ∧ okW bs (badP a) = True ∧ pkP (pkP a 6) 12 = badP a ∧ IntKind.i64.wrap (pkX bs (pkP a 6) 12 - 2) = badV bs a from ⟨ok _ h0 (by omega), ok _ (by omega) (by omega), ok _ (by omega) (by omega), hbp, hbv⟩)
  have hk : pkX bs a 6 = 0 ∨ pkX bs a 6 = 1 ∨ pkX bs a 6 = 2 ∨ pkX bs a 6 = 3 ∨ pkX bs a 6 = 4 ∨ pkX bs a 6 = 5 := by omega
  rcases hk with c | c | c | c | c | c
  all_goals
    simp only [badF, badA, c, ↓reduceIte, Int.reduceEq, Rec.cv, Cm.cv]
    refine tc_cell tabOk Tryd.func100 rfl 40 rfl (Nat.le_of_ble_eq_true rfl) (by decide) [(4, some 100)] rfl dom1 ?_
    intro w0 E0
    have kOk := kD10
    have hp := And.intro base (And.intro c (show ((0:Int) == 0) = true ∧ ((1:Int) == 0) = false ∧ ((1:Int) == 1) = true ∧ ((2:Int) == 0) = false ∧ ((2:Int) == 1) = false ∧ ((2:Int) == 2) = true ∧ ((3:Int) == 0) = false ∧ ((3:Int) == 1) = false ∧ ((3:Int) == 2) = false ∧ ((3:Int) == 3) = true ∧ ((4:Int) == 0) = false ∧ ((4:Int) == 1) = false ∧ ((4:Int) == 2) = false ∧ ((4:Int) == 3) = false ∧ ((4:Int) == 4) = true ∧ ((5:Int) == 0) = false ∧ ((5:Int) == 1) = false ∧ ((5:Int) == 2) = false ∧ ((5:Int) == 3) = false ∧ ((5:Int) == 4) = false from by decide))
    refine wk1 ?_
    refine am_retC [(1, 1)] rfl ?_ rfl rfl
    first | rfl | (refine go ?_; rfl)
end Go.Proofs.YtaolgdpkcbfocaaDoorA
/- Draws: the records of a life. -/
namespace Go.Proofs.YtaolgdpkcbfocaaDoorA
open Go.Proofs
set_option autoImplicit false
set_option linter.unusedVariables false
set_option linter.unusedSimpArgs false
set_option maxRecDepth 4000
theorem planC_ok {s u : Stb} (h : planC s u = 0) : stF s = true ∧ stF u = true ∧ fitB s u = true := by
  unfold planC at h
  split at h; · cases h
  split at h; · cases h
  split at h; · cases h
  rename_i h1 h2 h3
  exact ⟨by simpa using h1, by simpa using h2, by simpa using h3⟩
/-- An answer that ends in a nil slice ends in a row with nothing in it. -/
theorem tc_nilLast {P : Program} {f : FuncId} {args : List TV} {o0 o1 : List (Nat × AObj)} {n0 n1 : Nat} {xs : List Tree} (sz : Nat) (h : TC P f args o0 n0 (.agg (xs.map .t ++ [.t (.v (.slice none 0 0))])) o1 n1) : TC P f args o0 n0 (.agg (xs.map .t ++ [.t (.sl sz [])])) o1 n1 := by
  refine ⟨h.1, fun E w vs hvs hobjs hnext hzero hfresh hown hpre => ?_⟩
  refine (h.2 E w vs hvs hobjs hnext hzero hfresh hown hpre).mono ?_
  rintro e w' ⟨v, E', he, hv, rest⟩
  obtain ⟨ws, h1, h2⟩ : ∃ ws : List Value, v = .agg ws.toArray ∧ All2 (RC E' w') ws (xs.map CV.t ++ [CV.t (.v (.slice none 0 0))]) := hv
  obtain ⟨us, u, rfl, h3, h4⟩ := all2_snoc h2
  refine ⟨v, E', he, ⟨us ++ [u], h1, all2_mk_snoc h3 ?_⟩, rest⟩
  have m5 : RO w' (fun b o => E'.own b o = none) u (.v (.slice none 0 0)) := h4
  cases m5
  exact RO.sl none 0 sz [] 0 0 (fun _ _ => .bool false) (Nat.le_refl _) (Nat.zero_le _) (fun x hx => by cases hx) (fun h => (h rfl).elim) (fun i j hi => absurd hi (Nat.not_lt_zero _)) (fun i x hx => by simp at hx)
theorem plan1_tc (s u : Stb) (hl : s.log.length ≤ 1048576) (hl2 : u.log.length ≤ 1048576) (h : planC s u ≠ 0) : TC Tryd.prog 99 [.agg s.cv, .agg u.cv] [] 1 (.agg [ci (planC s u), .t (.sl 11 [])]) [] 1 :=
  tc_nilLast (xs := [.v (.int .i64 (planC s u))]) 11 (plan0_tc s u hl hl2 h)
def kd11_0_2 (n : Int) (a : Int) (s : Stb) (bs : List Int) : CB := if n = 4 ∧ okW bs a ∧ a ≤ 1099510000000 ∧ s.log.length ≤ 2000 then some (.agg (nxS bs a s).cv, [(1, .cells [.t (.sl 1 (bs.map bTr)), ci (nZ bs a 4 s)])], 2) else none
def kd11_0_1 (n : Int) (a : Int) (r0 : List (List Tree)) (s : Stb) : CB := (unBys r0).bind (kd11_0_2 n a s)
def kd11_0_0 (n : Int) (a : Int) (q0 : List CV) (r0 : List (List Tree)) : CB := (unStb q0).bind (kd11_0_1 n a r0)
def kd11_0 : List TV → List (Nat × AObj) → CB
  | [.c (.ptr 1 0), .agg q0, .c (.t (.v (.int .i64 n)))], [(1, .cells [.t (.sl 1 r0), .t (.v (.int .i64 a))])] => kd11_0_0 n a q0 r0
  | _, _ => none
def kd11_1_2 (s : Stb) (u : Stb) : CB := if planC s u = 0 ∧ s.log.length ≤ 1048576 ∧ u.log.length ≤ 1048576 then some (.agg [ci 0, .own 1 0 (recL s u).length], [(1, .arr 100 11 ((recL s u).map Rec.tr))], 2) else none
def kd11_1_1 (q1 : List CV) (s : Stb) : CB := (unStb q1).bind (kd11_1_2 s)
def kd11_1_0 (q0 : List CV) (q1 : List CV) : CB := (unStb q0).bind (kd11_1_1 q1)
def kd11_1 : List TV → List (Nat × AObj) → CB
  | [.agg q0, .agg q1], [] => kd11_1_0 q0 q1
  | _, _ => none
def kd11_2_2 (a : Int) (r : Rec) (bs : List Int) : CB := if okW bs a ∧ a ≤ 1099510000000 then some (.agg (badF bs a r).cv, [(1, .cells [.t (.sl 1 (bs.map bTr)), ci (badA bs a)])], 2) else none
def kd11_2_1 (a : Int) (r0 : List (List Tree)) (r : Rec) : CB := (unBys r0).bind (kd11_2_2 a r)
def kd11_2_0 (a : Int) (q0 : List CV) (r0 : List (List Tree)) : CB := (unRec q0).bind (kd11_2_1 a r0)
def kd11_2 : List TV → List (Nat × AObj) → CB
  | [.c (.ptr 1 0), .agg q0], [(1, .cells [.t (.sl 1 r0), .t (.v (.int .i64 a))])] => kd11_2_0 a q0 r0
  | _, _ => none
def kd11_call (f : FuncId) (args : List TV) (o : List (Nat × AObj)) : CB := if f = 98 then orO (kd11_0 args o) (kd10.callB f args o) else if f = 99 then orO (kd11_1 args o) (kd10.callB f args o) else if f = 100 then orO (kd11_2 args o) (kd10.callB f args o) else kd10.callB f args o
def kd11 : Kn := { call := kd10.call, eqs := eqTys, callB := kd11_call }
attribute [go_sem] kd11_0_0 kd11_0_1 kd11_0_2 kd11_0 kd11_1_0 kd11_1_1 kd11_1_2 kd11_1 kd11_2_0 kd11_2_1 kd11_2_2 kd11_2 kd11_call kd11
theorem kd11_ok : ∀ f args o res o1 n1, kd11_call f args o = some (res, o1, n1) → TC Tryd.prog f args o (o.length + 1) res o1 n1 := by
  intro f args o res o1 n1 h
  unfold kd11_call at h
  split at h
  · rename_i e; subst e
    have hh := orO_elim h
    clear h
    rcases hh with h | h
    rotate_left
    · exact kD10.callB _ _ _ _ _ _ h
    unfold kd11_0 at h
    split at h
    · rename_i q0 n r0 a; unfold kd11_0_0 at h
      have hb0 := Option.bind_eq_some_iff.1 h
      clear h
      obtain ⟨s, e0, h⟩ := hb0
      unfold kd11_0_1 at h
      have hb1 := Option.bind_eq_some_iff.1 h
      clear h
      obtain ⟨bs, e1, h⟩ := hb1
      unfold kd11_0_2 at h
      split at h
      · rename_i hc; cases h; rw [unStb_ok e0, unBys_ok e1]; obtain ⟨rfl, h1, h2, h3⟩ := hc; exact nx3_tc bs a s h1 h2 h3
      · cases h
    · cases h
  split at h
  · rename_i e; subst e
    have hh := orO_elim h
    clear h
    rcases hh with h | h
    rotate_left
    · exact kD10.callB _ _ _ _ _ _ h
    unfold kd11_1 at h
    split at h
    · rename_i q0 q1; unfold kd11_1_0 at h
      have hb0 := Option.bind_eq_some_iff.1 h
      clear h
      obtain ⟨s, e0, h⟩ := hb0
      unfold kd11_1_1 at h
      have hb1 := Option.bind_eq_some_iff.1 h
      clear h
      obtain ⟨u, e1, h⟩ := hb1
      unfold kd11_1_2 at h
      split at h
      · rename_i hc; cases h; rw [unStb_ok e0, unStb_ok e1]; obtain ⟨h1, h2, h3⟩ := hc; exact planST_ok s u h2 h3 (planC_ok h1).1 (planC_ok h1).2.1 (planC_ok h1).2.2
      · cases h
    · cases h
  split at h
  · rename_i e; subst e
    have hh := orO_elim h
    clear h
    rcases hh with h | h
    rotate_left
    · exact kD10.callB _ _ _ _ _ _ h
    unfold kd11_2 at h
    split at h
    · rename_i q0 r0 a; unfold kd11_2_0 at h
      have hb0 := Option.bind_eq_some_iff.1 h
      clear h
      obtain ⟨r, e0, h⟩ := hb0
      unfold kd11_2_1 at h
      have hb1 := Option.bind_eq_some_iff.1 h
      clear h
      obtain ⟨bs, e1, h⟩ := hb1
      unfold kd11_2_2 at h
      split at h
      · rename_i hc; cases h; rw [unRec_ok e0, unBys_ok e1]; exact bad_tc bs a r hc.1.1 hc.1.2.1 hc.2
      · cases h
    · cases h
  · exact kD10.callB f args o res o1 n1 h
theorem kD11 : KnOk Tryd.prog kd11 := ⟨kD10.call, eqTysOk, kd11_ok⟩
def kd12_0_2 (s : Stb) (u : Stb) : CB := if planC s u ≠ 0 ∧ s.log.length ≤ 1048576 ∧ u.log.length ≤ 1048576 then some (.agg [ci (planC s u), .t (.sl 11 [])], [], 1) else none
def kd12_0_1 (q1 : List CV) (s : Stb) : CB := (unStb q1).bind (kd12_0_2 s)
def kd12_0_0 (q0 : List CV) (q1 : List CV) : CB := (unStb q0).bind (kd12_0_1 q1)
def kd12_0 : List TV → List (Nat × AObj) → CB
  | [.agg q0, .agg q1], [] => kd12_0_0 q0 q1
  | _, _ => none
def kd12_call (f : FuncId) (args : List TV) (o : List (Nat × AObj)) : CB := if f = 99 then orO (kd12_0 args o) (kd11.callB f args o) else kd11.callB f args o
def kd12 : Kn := { call := kd11.call, eqs := eqTys, callB := kd12_call }
attribute [go_sem] kd12_0_0 kd12_0_1 kd12_0_2 kd12_0 kd12_call kd12
theorem kd12_ok : ∀ f args o res o1 n1, kd12_call f args o = some (res, o1, n1) → TC Tryd.prog f args o (o.length + 1) res o1 n1 := by
  intro f args o res o1 n1 h
  unfold kd12_call at h
  split at h
  · rename_i e; subst e
    have hh := orO_elim h
    clear h
    rcases hh with h | h
    rotate_left
    · exact kD11.callB _ _ _ _ _ _ h
    unfold kd12_0 at h
    split at h
    · rename_i q0 q1; unfold kd12_0_0 at h
      have hb0 := Option.bind_eq_some_iff.1 h
      clear h
      obtain ⟨s, e0, h⟩ := hb0
      unfold kd12_0_1 at h
      have hb1 := Option.bind_eq_some_iff.1 h
      clear h
      obtain ⟨u, e1, h⟩ := hb1
      unfold kd12_0_2 at h
      split at h
      · rename_i hc; cases h; rw [unStb_ok e0, unStb_ok e1]; obtain ⟨h1, h2, h3⟩ := hc; exact plan1_tc s u h2 h3 h1
      · cases h
    · cases h
  · exact kD11.callB f args o res o1 n1 h
theorem kD12 : KnOk Tryd.prog kd12 := ⟨kD11.call, eqTysOk, kd12_ok⟩
def rrL (s u : Stb) : List Rec := if planC s u = 0 then recL s u else []
theorem rrL_len (s u : Stb) : (rrL s u).length ≤ 2 + u.log.length := by
  have := recL_len s u
  unfold rrL
  split
  · exact this
  · simp
def rcL (bs : List Int) : Nat → Stb → Int → List Rec
  | 0, _, _ => []
  | n + 1, s, a => rrL s (nxS bs a s) ++ rcL bs n (nxS bs a s) (nZ bs a 4 s)
def rcA (bs : List Int) : Nat → Stb → Int → Int
  | 0, _, a => a
  | n + 1, s, a => rcA bs n (nxS bs a s) (nZ bs a 4 s)
def s0 : Stb := ⟨0, 0, []⟩
def zRec : Rec := ⟨0, 0, 0, 0, noEnt⟩
def drI (bs : List Int) (X : List Rec) (b : Int) : Nat := (pkX bs (pkP b 6) (X.length : Nat)).toNat
def drJ (bs : List Int) (X : List Rec) (b : Int) : Nat := (pkX bs (pkP (pkP b 6) (X.length : Nat)) (X.length : Nat)).toNat
def drR (bs : List Int) (X : List Rec) (b : Int) : List Rec :=
  if pkX bs b 6 = 0 ∧ 0 < X.length then X.set (drI bs X b) (badF bs (pkP (pkP b 6) (X.length : Nat)) (X.getD (drI bs X b) zRec))
  else if pkX bs b 6 = 1 ∧ 1 < X.length then (X.set (drI bs X b) (X.getD (drJ bs X b) zRec)).set (drJ bs X b) (X.getD (drI bs X b) zRec) else X
def drA (bs : List Int) (X : List Rec) (b : Int) : Int :=
  if pkX bs b 6 = 0 ∧ 0 < X.length then badA bs (pkP (pkP b 6) (X.length : Nat)) else if pkX bs b 6 = 1 ∧ 1 < X.length then pkP (pkP (pkP b 6) (X.length : Nat)) (X.length : Nat) else pkP b 6
theorem drR_len (bs : List Int) (X : List Rec) (b : Int) : (drR bs X b).length = X.length := by unfold drR; (repeat' split) <;> simp
theorem drA_le (bs : List Int) (X : List Rec) (b : Int) : b ≤ drA bs X b ∧ drA bs X b ≤ b + 30 := by
  have h1 := pkP_le b 6
  have h2 := pkP_le (pkP b 6) (X.length : Nat)
  have h3 := badA_le bs (pkP (pkP b 6) (X.length : Nat))
  have h4 := pkP_le (pkP (pkP b 6) (X.length : Nat)) (X.length : Nat)
  unfold drA
  (repeat' split) <;> omega
def rcM (size : Int) : Int := IntKind.i64.wrap (2 + Int.tdiv size 40)
def rcK (bs : List Int) (a size : Int) : Nat := (pkX bs a (rcM size)).toNat + 1
def recsD (bs : List Int) (a size : Int) : List Rec := drR bs (rcL bs (rcK bs a size) s0 (pkP a (rcM size))) (rcA bs (rcK bs a size) s0 (pkP a (rcM size)))
def recsP (bs : List Int) (a size : Int) : Int := drA bs (rcL bs (rcK bs a size) s0 (pkP a (rcM size))) (rcA bs (rcK bs a size) s0 (pkP a (rcM size)))
set_option maxHeartbeats 64000000 in
theorem recs_tc (bs : List Int) (a size : Int) (hb : okS bs) (h0 : 0 ≤ a) (h1 : a ≤ 1099500000000) (hs0 : 0 ≤ size) (hs1 : size ≤ 400) : TC Tryd.prog 77 [.c (.ptr 1 0), int size] [(1, .cells [.t (.sl 1 (bs.map bTr)), ci a])] 2
    (ro 11 ((recsD bs a size).map Rec.tr)) [(1, .cells [.t (.sl 1 (bs.map bTr)), ci (recsP bs a size)])] 2 := by
  have ok : ∀ q : Int, 0 ≤ q → q ≤ 1099511000000 → okW bs q = True := fun q hq0 hq1 => eq_true ⟨hb, hq0, by omega⟩
  have htd : Int.tdiv size 40 = size / 40 := Int.tdiv_eq_ediv_of_nonneg hs0
  have hm : rcM size = 2 + size / 40 := by unfold rcM; rw [htd, wrapN (by omega) (by omega)]
  have hm2 : 2 ≤ rcM size ∧ rcM size ≤ 12 := by omega
  have hr := pkX_rng (bs := bs) (a := a) (n := rcM size) ⟨hb, h0, by omega⟩ (by omega)
  have hp0 := pkP_le a (rcM size)
  obtain ⟨N, hN⟩ : ∃ N, N = rcK bs a size := ⟨_, rfl⟩
  have hNe : (N : Int) = pkX bs a (rcM size) + 1 := by rw [hN]; unfold rcK; omega
  have hN12 : N ≤ 12 := by omega
  unfold recsD recsP
  rw [← hN]
  generalize hA : pkP a (rcM size) = a1 at hp0 ⊢
  refine tc_intro Tryd.func77 rfl 93 rfl (Nat.le_of_ble_eq_true rfl) (by decide) [4] rfl dom1 ?_
  intro w0 E0
  have kOk := kD12
  refine am_rs tabOk kOk rfl fun K Q1 hK => ?_
  refine go ?_
  refine hK _ ?_
  clear hK K Q1
  refine am_rs tabOk kOk rfl fun K Q1 hK => ?_
  refine go ?_
  refine hK _ ?_
  clear hK K Q1
  refine am_rs tabOk kOk rfl fun K Q1 hK => ?_
  refine go ?_
  refine hK _ ?_
  clear hK K Q1
  have hp := (show okW bs a = True ∧ IntKind.i64.wrap (2 + Int.tdiv size 40) = rcM size ∧ (1 ≤ rcM size) = True ∧ (rcM size ≤ 1073741824) = True ∧ pkP a (rcM size) = a1 ∧ IntKind.i64.wrap (1 + pkX bs a (rcM size)) = (N : Int) ∧ ((40 : Int) = 0) = False ∧ IntKind.i64.wrap (Int.tdiv size 40) = Int.tdiv size 40 from
    ⟨ok _ h0 (by omega), rfl, eq_true (by omega), eq_true (by omega), hA, by rw [wrapN (by omega) (by omega)]; omega, by simp, by rw [htd, wrapN (by omega) (by omega)]⟩)
  refine am_rs tabOk kOk rfl fun K Q1 hK => ?_
  refine go1 ?_
  refine hK _ ?_
  clear hK K Q1
  refine am_nilCell 3 2 7 rfl rfl ?_
  refine go ?_
  clear hp
  refine am_scut ((rcL bs N s0 a1).length ≤ 720 ∧ a1 ≤ rcA bs N s0 a1 ∧ rcA bs N s0 a1 ≤ a1 + 2400) ⟨[(0, .c (.ptr 1 0)), (5, .c (.own 2 0 (rcL bs N s0 a1).length))], [(1, .cells [.t (.sl 1 (bs.map bTr)), ci (rcA bs N s0 a1)]), (2, .arr 100 11 ((rcL bs N s0 a1).map Rec.tr))], 3⟩ (fun hF => ?_) fun KC hKC => ?_
  rotate_left
  · refine wk ?_
    refine am_tidy [(1, 1), (2, 2), (3, 3)] [0, 5, 6, 7, 8] 4 rfl ?_
    refine go ?_
    refine am_loop (N + 1) ?_
    suffices key : ∀ (d k : Nat) (X : List Rec) (s : Stb) (p : Int), k + d = N → X ++ rcL bs d s p = rcL bs N s0 a1 → rcA bs d s p = rcA bs N s0 a1 → s.log.length ≤ 4 * k → a1 ≤ p → p ≤ a1 + 200 * k → X.length ≤ 60 * k → amR Tryd.prog _ _ _ (d + 1) ⟨[(0, .c (.ptr 1 0)), (5, .c (.own 2 0 X.length)), (6, .c (.ptr 3 0)), (7, int (N : Nat)), (8, int (k : Nat))], [(1, .cells [.t (.sl 1 (bs.map bTr)), ci p]), (2, .arr 100 11 (X.map Rec.tr)), (3, .cells s.cv)], 4⟩ from key N 0 [] s0 a1 (by simp) (by simp) rfl (by simp [s0]) (by omega) (by omega) (by simp)
    intro d
    induction d with
    | zero =>
      intro k X s p hk hX hA hs hp1 hp2 hXl
      have hk' : k = N := hk
      rw [rcL, List.append_nil] at hX
      rw [rcA] at hA
      have hp := (show ((k : Int) < (N : Int)) = False from eq_false (by omega))
      obtain ⟨t, v, l⟩ := s
      simp only [Stb.cv]
      refine amR_succ ?_
      refine wk1 ?_
      refine hKC _ [(1, 1), (2, 2)] [0, 5] 3 (by rw [← hX, ← hA]; omega) rfl ?_
      rw [← hX, ← hA]
      first | rfl | (refine go ?_; rfl)
    | succ d ih =>
      intro k X s p hk hX hA hs hp1 hp2 hXl
      have hw : okW bs p := ⟨hb, by omega, by omega⟩
      have n1 := nZ_le bs p s hw (by omega)
      have n2 := nE_len bs p s hw (by omega)
      have n3 := rrL_len s (nxS bs p s)
      rw [rcL, ← List.append_assoc] at hX
      rw [rcA] at hA
      have e5 : (nxS bs p s).log = nE bs p 4 s := rfl
      rw [e5] at n3
      have ihk := ih (k + 1) (X ++ rrL s (nxS bs p s)) (nxS bs p s) (nZ bs p 4 s) (by omega) hX hA (by rw [e5]; omega) (by omega) (by omega) (by rw [List.length_append]; omega)
      clear ih
      have n4 : (nxS bs p s).log.length ≤ 1048576 := by rw [e5]; omega
      have hp := (show ((k : Int) < (N : Int)) = True ∧ IntKind.i64.wrap ((k : Int) + 1) = ((k + 1 : Nat) : Int) ∧ okW bs p = True ∧ (p ≤ 1099510000000) = True from ⟨eq_true (by omega), by rw [wrapN (by omega) (by omega)]; rfl, eq_true hw, eq_true (by omega)⟩)
      generalize hU : nxS bs p s = u at *
      by_cases c : planC s u = 0
      · have er : rrL s u = recL s u := by simp [rrL, c]
        rw [er] at ihk n3
        generalize hY : recL s u = Y at *
        obtain ⟨t, v, l⟩ := s
        obtain ⟨t', v', l'⟩ := u
        simp only [Stb.cv] at *
        have hp := And.intro hp (show nxS bs p ⟨t, v, l⟩ = ⟨t', v', l'⟩ ∧ (l.length ≤ 2000) = True ∧ (l.length ≤ 1048576) = True ∧ (l'.length ≤ 1048576) = True ∧ planC ⟨t, v, l⟩ ⟨t', v', l'⟩ = 0 ∧ (X.length + Y.length ≤ maxLen) = True ∧ ((X.length + Y.length) * 112 ≤ 140737488355328) = True ∧ recL ⟨t, v, l⟩ ⟨t', v', l'⟩ = Y from
          ⟨hU, eq_true (by omega), eq_true (by omega), eq_true n4, c, eq_true (by unfold maxLen; omega), eq_true (by omega), hY⟩)
        refine amR_succ ?_
        refine wk1 ?_
        refine amR_tidy [(1, 1), (7, 2), (3, 3)] [0, 5, 6, 7, 8] 4 rfl ?_
        refine go1 ?_
        refine amR_st ?_ ihk
        simp [Rec.tr]
      · have er : rrL s u = [] := by simp [rrL, c]
        rw [er, List.append_nil] at ihk
        obtain ⟨t, v, l⟩ := s
        obtain ⟨t', v', l'⟩ := u
        simp only [Stb.cv] at *
        have hp := And.intro hp (show nxS bs p ⟨t, v, l⟩ = ⟨t', v', l'⟩ ∧ (l.length ≤ 2000) = True ∧ (l.length ≤ 1048576) = True ∧ (l'.length ≤ 1048576) = True ∧ (planC ⟨t, v, l⟩ ⟨t', v', l'⟩ = 0) = False ∧ (planC ⟨t, v, l⟩ ⟨t', v', l'⟩ ≠ 0) = True ∧ (X.length ≤ maxLen) = True ∧ (X.length * 112 ≤ 140737488355328) = True from
          ⟨hU, eq_true (by omega), eq_true (by omega), eq_true n4, eq_false c, eq_true c, eq_true (by unfold maxLen; omega), eq_true (by omega)⟩)
        refine amR_succ ?_
        refine wk1 ?_
        refine amR_tidy [(1, 1), (6, 2), (3, 3)] [0, 5, 6, 7, 8] 4 rfl ?_
        refine go1 ?_
        refine amR_st ?_ ihk
        simp [Rec.tr]
  generalize rcL bs N s0 a1 = X at hF ⊢
  generalize rcA bs N s0 a1 = b at hF ⊢
  obtain ⟨hX1, hb1, hb2⟩ := hF
  have p1 := pkP_le b 6
  have p2 := pkP_le (pkP b 6) (X.length : Nat)
  have base := (show okW bs b = True ∧ okW bs (pkP b 6) = True ∧ okW bs (pkP (pkP b 6) (X.length : Nat)) = True from ⟨ok _ (by omega) (by omega), ok _ (by omega) (by omega), ok _ (by omega) (by omega)⟩)
  by_cases c0 : pkX bs b 6 = 0
  · by_cases cl : 0 < X.length
    · have e1 : drR bs X b = X.set (drI bs X b) (badF bs (pkP (pkP b 6) (X.length : Nat)) (X.getD (drI bs X b) zRec)) := by simp [drR, c0, cl]
      have e2 : drA bs X b = badA bs (pkP (pkP b 6) (X.length : Nat)) := by simp [drA, c0, cl]
      rw [e1, e2]
      have r1 := pkX_rng (bs := bs) (a := pkP b 6) (n := (X.length : Nat)) ⟨hb, by omega, by omega⟩ (by omega)
      have ei : pkX bs (pkP b 6) (X.length : Nat) = ((drI bs X b : Nat) : Int) := by unfold drI; omega
      have hi : drI bs X b < X.length := by omega
      generalize drI bs X b = i at *
      obtain ⟨r, hr⟩ : ∃ r, X[i]? = some r := ⟨X[i]'hi, List.getElem?_eq_getElem hi⟩
      have er : X.getD i zRec = r := by rw [List.getD_eq_getElem?_getD, hr]; rfl
      rw [er]
      generalize hB : badF bs (pkP (pkP b 6) (X.length : Nat)) r = r'
      have hp := And.intro base (show (pkX bs b 6 == 0) = true ∧ (pkX bs b 6 == 1) = false ∧ ((X.length : Int) > 0) = True ∧ (1 ≤ (X.length : Int)) = True ∧ ((X.length : Int) ≤ 1073741824) = True ∧ pkX bs (pkP b 6) (X.length : Nat) = (i : Int) ∧ (i < X.length) = True ∧ (X.map Rec.tr)[i]? = some r.tr ∧ (X.map Rec.tr).set i r'.tr = (X.set i r').map Rec.tr ∧ badF bs (pkP (pkP b 6) (X.length : Nat)) r = r' ∧ (pkP (pkP b 6) (X.length : Nat) ≤ 1099510000000) = True ∧ (X.set i r').length = X.length from
        ⟨by simp [c0], by simp [c0], eq_true (by omega), eq_true (by omega), eq_true (by omega), ei, eq_true hi, by rw [List.getElem?_map, hr]; rfl, set_map _ _ _ _, hB, eq_true (by omega), by rw [List.length_set]⟩)
      obtain ⟨kd, te, vo, ix, ⟨t, ⟨ca, cb, co, x, y, z⟩⟩⟩ := r
      obtain ⟨kd', te', vo', ix', ⟨t', ⟨ca', cb', co', x', y', z'⟩⟩⟩ := r'
      simp only [Rec.tr] at hp
      refine wk1 ?_
      refine am_tidy [(1, 1), (2, 2)] [4] 3 rfl ?_
      refine go1 ?_
      refine am_frz 2 rfl (Nat.le_of_ble_eq_true rfl) (by decide) ?_
      refine go1 ?_
      refine am_retB [(1, 1)] rfl ?_ ?_ rfl <;> first | refine go ?_ | rfl
    · have cl' : X.length = 0 := by omega
      have e1 : drR bs X b = X := by simp [drR, *]
      have e2 : drA bs X b = pkP b 6 := by simp [drA, *]
      rw [e1, e2]
      have hp := And.intro base (show (pkX bs b 6 == 0) = true ∧ (pkX bs b 6 == 1) = false ∧ ((X.length : Int) > 0) = False from ⟨by simp [c0], by simp [c0], eq_false (by omega)⟩)
      refine wk1 ?_
      refine am_tidy [(1, 1), (2, 2)] [4] 3 rfl ?_
      refine go1 ?_
      refine am_frz 2 rfl (Nat.le_of_ble_eq_true rfl) (by decide) ?_
      refine go1 ?_
      refine am_retB [(1, 1)] rfl ?_ ?_ rfl <;> first | refine go ?_ | rfl
  · by_cases c1 : pkX bs b 6 = 1
    · by_cases cl : 1 < X.length
      · have p3 := pkP_le (pkP (pkP b 6) (X.length : Nat)) (X.length : Nat)
        have e1 : drR bs X b = (X.set (drI bs X b) (X.getD (drJ bs X b) zRec)).set (drJ bs X b) (X.getD (drI bs X b) zRec) := by simp [drR, c1, cl]
        have e2 : drA bs X b = pkP (pkP (pkP b 6) (X.length : Nat)) (X.length : Nat) := by simp [drA, c1, cl]
        rw [e1, e2]
        have r1 := pkX_rng (bs := bs) (a := pkP b 6) (n := (X.length : Nat)) ⟨hb, by omega, by omega⟩ (by omega)
        have r2 := pkX_rng (bs := bs) (a := pkP (pkP b 6) (X.length : Nat)) (n := (X.length : Nat)) ⟨hb, by omega, by omega⟩ (by omega)
        have ei : pkX bs (pkP b 6) (X.length : Nat) = ((drI bs X b : Nat) : Int) := by unfold drI; omega
        have ej : pkX bs (pkP (pkP b 6) (X.length : Nat)) (X.length : Nat) = ((drJ bs X b : Nat) : Int) := by unfold drJ; omega
        have hi : drI bs X b < X.length := by omega
        have hj : drJ bs X b < X.length := by omega
        generalize drI bs X b = i at *
        generalize drJ bs X b = j at *
        obtain ⟨r, hr⟩ : ∃ r, X[i]? = some r := ⟨X[i]'hi, List.getElem?_eq_getElem hi⟩
        obtain ⟨q, hq⟩ : ∃ r, X[j]? = some r := ⟨X[j]'hj, List.getElem?_eq_getElem hj⟩
        have hXj : (X.set i q)[j]? = some q := by
          rw [List.getElem?_set]
          split
          · simp [hi]
          · exact hq
        have er : X.getD i zRec = r := by rw [List.getD_eq_getElem?_getD, hr]; rfl
        have eq : X.getD j zRec = q := by rw [List.getD_eq_getElem?_getD, hq]; rfl
        rw [er, eq]
        have hp := And.intro base (show (pkX bs b 6 == 0) = false ∧ (pkX bs b 6 == 1) = true ∧ ((X.length : Int) > 1) = True ∧ (1 ≤ (X.length : Int)) = True ∧ ((X.length : Int) ≤ 1073741824) = True ∧ pkX bs (pkP b 6) (X.length : Nat) = (i : Int) ∧ pkX bs (pkP (pkP b 6) (X.length : Nat)) (X.length : Nat) = (j : Int) ∧ (i < X.length) = True ∧ (j < X.length) = True ∧ (X.map Rec.tr)[i]? = some r.tr ∧ (X.map Rec.tr)[j]? = some q.tr ∧ (X.map Rec.tr).set i q.tr = (X.set i q).map Rec.tr ∧ ((X.set i q).map Rec.tr).set j r.tr = ((X.set i q).set j r).map Rec.tr ∧ (X.set i q).length = X.length ∧ ((X.set i q).set j r).length = X.length ∧ ((X.set i q).map Rec.tr)[j]? = some q.tr from
          ⟨by simp [c0], by simp [c1], eq_true (by omega), eq_true (by omega), eq_true (by omega), ei, ej, eq_true hi, eq_true hj, by rw [List.getElem?_map, hr]; rfl, by rw [List.getElem?_map, hq]; rfl, set_map _ _ _ _, set_map _ _ _ _, by rw [List.length_set], by rw [List.length_set, List.length_set], by rw [List.getElem?_map, hXj]; rfl⟩)
        obtain ⟨kd, te, vo, ix, ⟨t, ⟨ca, cb, co, x, y, z⟩⟩⟩ := r
        obtain ⟨kd', te', vo', ix', ⟨t', ⟨ca', cb', co', x', y', z'⟩⟩⟩ := q
        simp only [Rec.tr] at hp
        refine wk1 ?_
        refine am_tidy [(1, 1), (2, 2)] [4] 3 rfl ?_
        refine go1 ?_
        refine am_frz 2 rfl (Nat.le_of_ble_eq_true rfl) (by decide) ?_
        refine go1 ?_
        refine am_retB [(1, 1)] rfl ?_ ?_ rfl <;> first | refine go ?_ | rfl
      · have cl' : ¬ 1 < X.length := cl
        have e1 : drR bs X b = X := by simp [drR, *]
        have e2 : drA bs X b = pkP b 6 := by simp [drA, *]
        rw [e1, e2]
        have hp := And.intro base (show (pkX bs b 6 == 0) = false ∧ (pkX bs b 6 == 1) = true ∧ ((X.length : Int) > 1) = False from ⟨by simp [c0], by simp [c1], eq_false (by omega)⟩)
        refine wk1 ?_
        refine am_tidy [(1, 1), (2, 2)] [4] 3 rfl ?_
        refine go1 ?_
        refine am_frz 2 rfl (Nat.le_of_ble_eq_true rfl) (by decide) ?_
        refine go1 ?_
        refine am_retB [(1, 1)] rfl ?_ ?_ rfl <;> first | refine go ?_ | rfl
    · have c2 := c1
      have e1 : drR bs X b = X := by simp [drR, *]
      have e2 : drA bs X b = pkP b 6 := by simp [drA, *]
      rw [e1, e2]
      have hp := And.intro base (show (pkX bs b 6 == 0) = false ∧ (pkX bs b 6 == 1) = false from ⟨by simp [c0], by simp [c1]⟩)
      refine wk1 ?_
      refine am_tidy [(1, 1), (2, 2)] [4] 3 rfl ?_
      refine go1 ?_
      refine am_frz 2 rfl (Nat.le_of_ble_eq_true rfl) (by decide) ?_
      refine go1 ?_
      refine am_retB [(1, 1)] rfl ?_ ?_ rfl <;> first | refine go ?_ | rfl
end Go.Proofs.YtaolgdpkcbfocaaDoorA
