/- Clients: the law, plain: what each step keeps to. -/
import Derived.Test.YtgalnkilcajgcaaFDraw9
import Derived.Test.YtgalnkilcajgcaaFStepL
namespace Go.Proofs.YtgalnkilcajgcaaA
open Go.Proofs
set_option autoImplicit false
set_option linter.unusedVariables false
set_option linter.unusedSimpArgs false
set_option maxRecDepth 4000
/-- What a drawn event keeps to. -/
def evOk (c : Cl) (e : Ev) : Prop := (1 ≤ e.k ∧ e.k ≤ 3) ∧ (1 ≤ e.r.sq → e.r.sq ≤ 1073741824 → rpF e.r = 0)
theorem evF_ok {bs : List Int} {a : Int} {c : Cl} (hb : okS bs) (h0 : 0 ≤ a) (h1 : a ≤ 1099511610000) (hc : clF c = true) : evOk c (evF bs a c) := by
  have r := pk_rng (bs := bs) (a := a) (n := 3) hb ⟨by omega, by omega⟩ (by omega)
  have w : IntKind.i64.wrap (1 + pkF bs a 3) = 1 + pkF bs a 3 := wrapN (by omega) (by omega)
  have q1 := cmdN_le bs (a + 1)
  simp only [clF, decide_eq_true_eq] at hc
  refine ⟨by unfold evF; simp only [w]; omega, fun h2 h3 => ?_⟩
  exact repF_ok (bs := bs) (a := cmdN bs (a + 1)) (cl := c.id) (sq := evSq bs a c) hb (by omega) (by omega) hc.1 ⟨h2, h3⟩
/-- What the law asks of a step. -/
structure StepOk (c : Cl) (e : Ev) (x : An) : Prop where
  code : 0 ≤ x.code ∧ x.code ≤ 3
  send : x.send = 0 ∨ x.send = x.c.to
  done : (x.done = 1 ∧ e.k = 3 ∧ c.st = 1 ∧ e.r.sq = c.sq ∧ e.r.cl = c.id ∧ e.r.kd = 1 ∧ x.c.st = 0) ∨ (x.done = 0 ∧ ¬ (e.k = 3 ∧ c.st = 1 ∧ e.r.sq = c.sq ∧ e.r.cl = c.id ∧ e.r.kd = 1))
  taken : (e.k = 1 ∧ x.code = 0 ∧ c.st = 0 ∧ x.c.st = 1 ∧ x.c.sq = IntKind.i64.wrap (c.sq + 1) ∧ x.c.cmd.k = e.m.k ∧ x.c.cmd.sq = x.c.sq) ∨ (¬ (e.k = 1 ∧ x.code = 0) ∧ x.c.sq = c.sq ∧ (x.done = 1 ∨ (x.c.st = c.st ∧ x.c.cmd = c.cmd)))
theorem step_ok {c : Cl} {e : Ev} (h : clF c = true) (he : evOk c e) : StepOk c e (stepF c e) := by
  have h' := h
  simp only [clF, decide_eq_true_eq] at h
  obtain ⟨a1, a2, a3, a4, a5, a6, a7⟩ := h
  obtain ⟨⟨k1, k2⟩, k3⟩ := he
  unfold stepF
  rw [if_neg (by rw [h']; simp)]
  split
  · rename_i hk
    unfold askF
    split
    · exact ⟨⟨by simp, by simp⟩, .inl rfl, .inr ⟨rfl, by omega⟩, .inr ⟨by simp, rfl, .inr ⟨rfl, rfl⟩⟩⟩
    split
    · exact ⟨⟨by simp, by simp⟩, .inl rfl, .inr ⟨rfl, by omega⟩, .inr ⟨by simp, rfl, .inr ⟨rfl, rfl⟩⟩⟩
    · rename_i h2 h3
      exact ⟨⟨by simp, by simp⟩, .inr rfl, .inr ⟨rfl, by omega⟩, .inl ⟨hk, rfl, by omega, rfl, rfl, rfl, rfl⟩⟩
  split
  · rename_i hk1 hk
    unfold pokeF
    split
    · exact ⟨⟨by simp, by simp⟩, .inl rfl, .inr ⟨rfl, by omega⟩, .inr ⟨by simp, rfl, .inr ⟨rfl, rfl⟩⟩⟩
    split
    · exact ⟨⟨by simp, by simp⟩, .inl rfl, .inr ⟨rfl, by omega⟩, .inr ⟨by omega, rfl, .inr ⟨rfl, rfl⟩⟩⟩
    · exact ⟨⟨by simp, by simp⟩, .inr rfl, .inr ⟨rfl, by omega⟩, .inr ⟨by omega, rfl, .inr ⟨rfl, rfl⟩⟩⟩
  split
  · rename_i hk1 hk2 hk
    unfold hearF
    split
    · rename_i hr
      exact ⟨⟨by simp, by simp⟩, .inl rfl, .inr ⟨rfl, by rintro ⟨-, j1, j2, -, -⟩; exact hr (k3 (by omega) (by omega))⟩, .inr ⟨by omega, rfl, .inr ⟨rfl, rfl⟩⟩⟩
    split
    · exact ⟨⟨by simp, by simp⟩, .inl rfl, .inr ⟨rfl, by omega⟩, .inr ⟨by omega, rfl, .inr ⟨rfl, rfl⟩⟩⟩
    rename_i h2 h3
    split
    · exact ⟨⟨by simp, by simp⟩, .inl rfl, .inl ⟨rfl, hk, by omega, by omega, by omega, by omega, rfl⟩, .inr ⟨by omega, rfl, .inl rfl⟩⟩
    split
    · exact ⟨⟨by simp, by simp⟩, .inr rfl, .inr ⟨rfl, by omega⟩, .inr ⟨by omega, rfl, .inr ⟨rfl, rfl⟩⟩⟩
    · exact ⟨⟨by simp, by simp⟩, .inl rfl, .inr ⟨rfl, by omega⟩, .inr ⟨by omega, rfl, .inr ⟨rfl, rfl⟩⟩⟩
  · omega
def kd9_0_1 (bs : List Int) : CB := if okS bs then some (.tup [.agg (cliF bs 0).cv, .c (.own 1 0 (drawA bs).length)], [(1, .arr 36 13 ((drawA bs).map Ev.tr))], 2) else none
def kd9_0_0 (r0 : List (List Tree)) : CB := (unBys r0).bind (kd9_0_1)
def kd9_0 : List TV → List (Nat × AObj) → CB
  | [.c (.t (.sl 1 r0))], [] => kd9_0_0 r0
  | _, _ => none
def kd9_call (f : FuncId) (args : List TV) (o : List (Nat × AObj)) : CB := if f = 14 then orO (kd9_0 args o) (kd8.callB f args o) else kd8.callB f args o
def kd9 : Kn := { call := kd8.call, eqs := eqTys, callB := kd9_call }
attribute [go_sem] kd9_0_0 kd9_0_1 kd9_0 kd9_call kd9
theorem kd9_ok : ∀ f args o res o1 n1, kd9_call f args o = some (res, o1, n1) → TC Try.prog f args o (o.length + 1) res o1 n1 := by
  intro f args o res o1 n1 h
  unfold kd9_call at h
  split at h
  · rename_i e; subst e
    have hh := orO_elim h
    clear h
    rcases hh with h | h
    rotate_left
    · exact kD8.callB _ _ _ _ _ _ h
    unfold kd9_0 at h
    split at h
    · rename_i r0; unfold kd9_0_0 at h
      have hb0 := Option.bind_eq_some_iff.1 h
      clear h
      obtain ⟨bs, e0, h⟩ := hb0
      unfold kd9_0_1 at h
      split at h
      · rename_i hc; cases h; rw [unBys_ok e0]; exact calls_tc bs hc
      · cases h
    · cases h
  · exact kD8.callB f args o res o1 n1 h
theorem kD9 : KnOk Try.prog kd9 := ⟨kD8.call, eqTysOk, kd9_ok⟩
def kn30 : Kn := orKn kn9 kd9
theorem k30 : KnOk Try.prog kn30 := orKn_ok k9 kD9
attribute [go_sem] kn30 orKn
theorem bbRefl (x : ByteArray) : (x == x) = true := by rw [beq_toListBytes]; simp
theorem bnRefl (x : ByteArray) : (x != x) = false := by simp [bne, bbRefl]
theorem evGo_len (bs : List Int) : ∀ (d : Nat) (a : Int) (c : Cl), (evGo bs d a c).length = d
  | 0, _, _ => rfl
  | d + 1, a, c => by rw [evGo, List.length_cons, evGo_len bs d]
theorem evM_rng {bs : List Int} (hb : okS bs) : 6 ≤ evM bs ∧ evM bs ≤ 262 := by
  have c1 := cliA_le bs 0
  have en := evN_rng hb
  have r := pk_rng (bs := bs) (a := cliA bs 0) (n := evN bs) hb ⟨by omega, by omega⟩ (by omega)
  unfold evM
  rw [wrapN (by omega) (by omega)]
  omega
set_option maxHeartbeats 64000000 in
theorem lawCl_tc (bs : List Int) (hb : (∀ n, n ∈ bs → 0 ≤ n ∧ n ≤ 255) ∧ bs.length ≤ maxLen) : TC Try.prog 3 [ro 1 (bs.map bTr)] [] 1 (bool true) [] 1 := by
  refine tc_intro Try.func3 rfl 213 rfl (Nat.le_of_ble_eq_true rfl) (by decide) [2] rfl (by intro id x h; cases h) ?_
  intro w0 E0
  have kOk := k30
  by_cases hl : (bs.length : Int) > 1048576
  · have hp := (show (bs.map bTr).length = bs.length ∧ ((bs.length : Int) > 1048576) = True from ⟨by simp, eq_true hl⟩)
    repeat' (fail_if_success (with_reducible apply amR_id)); first
      | (refine guardP_mk (fun h => ?_) (fun h => ?_) <;> (refine go1 ?_; try simp only [decide_eq_true_eq, decide_eq_false_iff_not, Bool.not_true, Bool.not_false, Bool.not_eq_true', Bool.not_eq_false', beq_iff_eq, bne_iff_ne, beq_eq_false_iff_ne, bne_eq_false_iff_eq, ne_eq, Bool.false_eq_true, reduceCtorEq] at h))
      | (refine hK _ ?_; clear hK K Q1)
      | (refine hK _ _ rfl ?_; clear hK K; try refine go1 ?_)
      | (refine am_retP rfl ?_ rfl; first | refine go ?_ | rfl)
      | (refine am_retC [] rfl ?_ rfl rfl; first | refine go ?_ | rfl)
      | (refine wkq ?_)
      | (refine am_rs tabOk kOk rfl fun K Q1 hK => ?_; refine go1 ?_)
      | (refine am_ds mixed tabOk kOk rfl rfl fun K hK => ?_; refine go1 ?_)
      | (refine am_dreg mixed tabOk kOk rfl rfl fun K hK => ?_; refine go1 ?_)
    all_goals rfl
  have hs : okS bs := ⟨hb.1, by omega⟩
  have hp := (show (bs.map bTr).length = bs.length ∧ ((bs.length : Int) > 1048576) = False ∧ okS bs = True from ⟨by simp, eq_false hl, eq_true hs⟩)
  refine wk1 ?_
  refine am_tidy [(1, 1), (2, 2), (3, 3), (4, 4)] [2, 3, 4, 5, 6, 7] 5 rfl ?_
  refine go1 ?_
  refine am_loop ((drawA bs).length + 1) ?_
  have hM := evM_rng hs
  have hL : (drawA bs).length = (evM bs).toNat := by unfold drawA; exact evGo_len _ _ _ _
  suffices key : ∀ (d k : Nat) (a : Int) (c : Cl), k + d = (drawA bs).length → 0 ≤ a → a ≤ 1000 + 100 * (k : Nat) → clF c = true → evGo bs d a c = (drawA bs).drop k →
      amR Try.prog _ _ _ (d + 1) ⟨[(2, bool false), (3, .c (.ptr 2 0)), (4, .c (.own 1 0 (drawA bs).length)), (5, .c (.ptr 4 0)), (6, .c (.own 3 0 (drawA bs).length)), (7, int (k : Nat))], [(1, .arr 36 13 ((drawA bs).map Ev.tr)), (2, .cells c.cv), (3, .arr 36 13 ((drawA bs).map Ev.tr)), (4, .cells (cliF bs 0).cv)], 5⟩ from
    key (drawA bs).length 0 (cliA bs 0 + 1) (cliF bs 0) (by simp) (by have := cliA_le bs 0; omega) (by have := cliA_le bs 0; omega) (cliF_ok hs (by omega) (by omega)) (by rw [List.drop_zero, hL]; rfl)
  clear hp
  intro d
  induction d with
  | zero =>
    intro k a c hk h0 h1 hc hf
    have hp := (show ((k : Int) < ((drawA bs).length : Int)) = False from eq_false (by omega))
    refine amR_succ ?_
    repeat' (fail_if_success (with_reducible apply amR_id)); first
      | (refine guardP_mk (fun h => ?_) (fun h => ?_) <;> (refine go1 ?_; try simp only [decide_eq_true_eq, decide_eq_false_iff_not, Bool.not_true, Bool.not_false, Bool.not_eq_true', Bool.not_eq_false', beq_iff_eq, bne_iff_ne, beq_eq_false_iff_ne, bne_eq_false_iff_eq, ne_eq, Bool.false_eq_true, reduceCtorEq] at h))
      | (refine hK _ ?_; clear hK K Q1)
      | (refine hK _ _ rfl ?_; clear hK K; try refine go1 ?_)
      | (refine am_retP rfl ?_ rfl; first | refine go ?_ | rfl)
      | (refine am_retC [] rfl ?_ rfl rfl; first | refine go ?_ | rfl)
      | (refine wkq ?_)
      | (refine am_rs tabOk kOk rfl fun K Q1 hK => ?_; refine go1 ?_)
      | (refine am_ds mixed tabOk kOk rfl rfl fun K hK => ?_; refine go1 ?_)
      | (refine am_dreg mixed tabOk kOk rfl rfl fun K hK => ?_; refine go1 ?_)
    all_goals rfl
  | succ d ih =>
    intro k a c hk h0 h1 hc hf
    have q3 := evA_le bs a
    have heo := evF_ok hs h0 (by omega) hc
    have hso := step_ok hc heo
    rw [evGo] at hf
    have hk1 : (drawA bs)[k]? = some (evF bs a c) := by
      have := congrArg List.head? hf
      rw [List.head?_drop] at this
      exact this.symm
    have hk2 : evGo bs d (evA bs a) (stepF c (evF bs a c)).c = (drawA bs).drop (k + 1) := by
      have := congrArg List.tail hf
      rw [List.tail_drop] at this
      exact this
    have hsk := step_keeps (e := evF bs a c) hc
    have ihk := ih (k + 1) (evA bs a) _ (by omega) (by omega) (by omega) hsk hk2
    clear ih hf hk2 hsk heo
    generalize evF bs a c = e at *
    generalize hx : stepF c e = x at *
    obtain ⟨i, n, p, q, s, t, tk, ⟨ma, mb, mo, mx, my, mz⟩⟩ := c
    obtain ⟨ek, ⟨ea, eb, eo, ex, ey, ez⟩, ⟨rc, rq, rk, rr, rv, rg⟩⟩ := e
    obtain ⟨u, v, w, ⟨i', n', p', q', s', t', tk', ⟨ma', mb', mo', mx', my', mz'⟩⟩⟩ := x
    obtain ⟨g1, g2, g3, g4⟩ := hso
    simp only [Cm.mk.injEq] at g1 g2 g3 g4
    have hlen : (drawA bs).length ≤ 262 := by omega
    rcases g4 with ⟨h41, h42, h43, h44, rfl, rfl, rfl⟩ | ⟨h41, rfl, h43⟩
    · -- taken
      have hw0 : w = 0 := by omega
      have hp := (show ((drawA bs).map Ev.tr)[k]? = some (Ev.tr ⟨ek, ⟨ea, eb, eo, mx', ey, ez⟩, ⟨rc, rq, rk, rr, rv, rg⟩⟩) ∧ ((drawA bs).map Ev.tr).length = (drawA bs).length ∧ stepF ⟨i, n, p, q, s, t, tk, ⟨ma, mb, mo, mx, my, mz⟩⟩ ⟨ek, ⟨ea, eb, eo, mx', ey, ez⟩, ⟨rc, rq, rk, rr, rv, rg⟩⟩ = ⟨u, v, w, ⟨i', n', p', IntKind.i64.wrap (q + 1), s', t', tk', ⟨ma', IntKind.i64.wrap (q + 1), mo', mx', my', mz'⟩⟩⟩ ∧ ((k : Int) < ((drawA bs).length : Int)) = True ∧ (k < (drawA bs).length) = True ∧ IntKind.i64.wrap ((k : Int) + 1) = ((k + 1 : Nat) : Int) ∧ (∀ x : Int, (x == x) = true) ∧ (∀ x : Int, (x != x) = false) ∧ (∀ x : ByteArray, (x == x) = true) ∧ (∀ x : ByteArray, (x != x) = false) ∧ (u > 3) = False ∧ (ek == 1) = true ∧ (ek == 3) = false ∧ (u == 0) = true ∧ (w == 1) = false ∧ (w != 0) = false ∧ (s != 0) = false ∧ (s == 1) = false ∧ (s' != 1) = false from
        ⟨by rw [List.getElem?_map, hk1]; rfl, by simp, hx, eq_true (by omega), eq_true (by omega), by rw [wrapN (by omega) (by omega)]; rfl, fun x => by simp, fun x => by simp, bbRefl, bnRefl, eq_false (by omega), by first | (simp; omega) | (simp; done), by first | (simp; omega) | (simp; done), by first | (simp; omega) | (simp; done), by first | (simp; omega) | (simp; done), by first | (simp; omega) | (simp; done), by first | (simp; omega) | (simp; done), by first | (simp; omega) | (simp; done), by first | (simp; omega) | (simp; done)⟩)
      simp only [Ev.tr] at hp
      refine amR_succ ?_
      repeat' (fail_if_success (with_reducible apply amR_id)); first
        | (refine guardP_mk (fun h => ?_) (fun h => ?_) <;> (refine go1 ?_; try simp only [decide_eq_true_eq, decide_eq_false_iff_not, Bool.not_true, Bool.not_false, Bool.not_eq_true', Bool.not_eq_false', beq_iff_eq, bne_iff_ne, beq_eq_false_iff_ne, bne_eq_false_iff_eq, ne_eq, Bool.false_eq_true, reduceCtorEq] at h))
        | (refine hK _ ?_; clear hK K Q1)
        | (refine hK _ _ rfl ?_; clear hK K; try refine go1 ?_)
        | (refine am_retP rfl ?_ rfl; first | refine go ?_ | rfl)
        | (refine am_retC [] rfl ?_ rfl rfl; first | refine go ?_ | rfl)
        | (refine am_retB [(1, 1), (2, 2), (3, 3), (4, 4)] rfl ?_ ?_ rfl <;> first | refine go ?_ | rfl)
        | (refine wkq ?_)
        | (refine am_rs tabOk kOk rfl fun K Q1 hK => ?_; refine go1 ?_)
        | (refine am_ds mixed tabOk kOk rfl rfl fun K hK => ?_; refine go1 ?_)
        | (refine am_dreg mixed tabOk kOk rfl rfl fun K hK => ?_; refine go1 ?_)
      all_goals try (refine amR_tidy [(1, 1), (2, 2), (3, 3), (4, 4)] [2, 3, 4, 5, 6, 7] 5 rfl ?_; refine go1 ?_; refine ihk)
      all_goals (clear ihk hp)
      all_goals (try (first | exact absurd trivial h | (exfalso; simp at h; omega)))
      all_goals (try omega)
    rcases g3 with ⟨h31, h32, h33, rfl, rfl, h36, h37⟩ | ⟨h31, h32⟩
    · -- done
      have hp := (show ((drawA bs).map Ev.tr)[k]? = some (Ev.tr ⟨ek, ⟨ea, eb, eo, ex, ey, ez⟩, ⟨rc, rq, rk, rr, rv, rg⟩⟩) ∧ ((drawA bs).map Ev.tr).length = (drawA bs).length ∧ stepF ⟨rc, n, p, rq, s, t, tk, ⟨ma, mb, mo, mx, my, mz⟩⟩ ⟨ek, ⟨ea, eb, eo, ex, ey, ez⟩, ⟨rc, rq, rk, rr, rv, rg⟩⟩ = ⟨u, v, w, ⟨i', n', p', rq, s', t', tk', ⟨ma', mb', mo', mx', my', mz'⟩⟩⟩ ∧ ((k : Int) < ((drawA bs).length : Int)) = True ∧ (k < (drawA bs).length) = True ∧ IntKind.i64.wrap ((k : Int) + 1) = ((k + 1 : Nat) : Int) ∧ (∀ x : Int, (x == x) = true) ∧ (∀ x : Int, (x != x) = false) ∧ (∀ x : ByteArray, (x == x) = true) ∧ (∀ x : ByteArray, (x != x) = false) ∧ (u > 3) = False ∧ (ek == 1) = false ∧ (ek == 3) = true ∧ (s == 1) = true ∧ (rk == 1) = true ∧ (w != 0) = true ∧ (w != 1) = false ∧ (w == 1) = true ∧ (s' != 0) = false from
        ⟨by rw [List.getElem?_map, hk1]; rfl, by simp, hx, eq_true (by omega), eq_true (by omega), by rw [wrapN (by omega) (by omega)]; rfl, fun x => by simp, fun x => by simp, bbRefl, bnRefl, eq_false (by omega), by first | (simp; omega) | (simp; done), by first | (simp; omega) | (simp; done), by first | (simp; omega) | (simp; done), by first | (simp; omega) | (simp; done), by first | (simp; omega) | (simp; done), by first | (simp; omega) | (simp; done), by first | (simp; omega) | (simp; done), by first | (simp; omega) | (simp; done)⟩)
      simp only [Ev.tr] at hp
      refine amR_succ ?_
      repeat' (fail_if_success (with_reducible apply amR_id)); first
        | (refine guardP_mk (fun h => ?_) (fun h => ?_) <;> (refine go1 ?_; try simp only [decide_eq_true_eq, decide_eq_false_iff_not, Bool.not_true, Bool.not_false, Bool.not_eq_true', Bool.not_eq_false', beq_iff_eq, bne_iff_ne, beq_eq_false_iff_ne, bne_eq_false_iff_eq, ne_eq, Bool.false_eq_true, reduceCtorEq] at h))
        | (refine hK _ ?_; clear hK K Q1)
        | (refine hK _ _ rfl ?_; clear hK K; try refine go1 ?_)
        | (refine am_retP rfl ?_ rfl; first | refine go ?_ | rfl)
        | (refine am_retC [] rfl ?_ rfl rfl; first | refine go ?_ | rfl)
        | (refine am_retB [(1, 1), (2, 2), (3, 3), (4, 4)] rfl ?_ ?_ rfl <;> first | refine go ?_ | rfl)
        | (refine wkq ?_)
        | (refine am_rs tabOk kOk rfl fun K Q1 hK => ?_; refine go1 ?_)
        | (refine am_ds mixed tabOk kOk rfl rfl fun K hK => ?_; refine go1 ?_)
        | (refine am_dreg mixed tabOk kOk rfl rfl fun K hK => ?_; refine go1 ?_)
      all_goals try (refine amR_tidy [(1, 1), (2, 2), (3, 3), (4, 4)] [2, 3, 4, 5, 6, 7] 5 rfl ?_; refine go1 ?_; refine ihk)
      all_goals (clear ihk hp)
      all_goals (try (first | exact absurd trivial h | (exfalso; simp at h; omega)))
      all_goals (try omega)
    have h44 : s' = s ∧ ma' = ma ∧ mb' = mb ∧ mo' = mo ∧ mx' = mx ∧ my' = my ∧ mz' = mz := by
      rcases h43 with h | h
      · omega
      · exact h
    clear h43
    obtain ⟨rfl, rfl, rfl, rfl, rfl, rfl, rfl⟩ := h44
    by_cases he : ek = 1
    · have hu : u ≠ 0 := fun h => h41 ⟨he, h⟩
      have hp := (show ((drawA bs).map Ev.tr)[k]? = some (Ev.tr ⟨ek, ⟨ea, eb, eo, ex, ey, ez⟩, ⟨rc, rq, rk, rr, rv, rg⟩⟩) ∧ ((drawA bs).map Ev.tr).length = (drawA bs).length ∧ stepF ⟨i, n, p, q', s', t, tk, ⟨ma', mb', mo', mx', my', mz'⟩⟩ ⟨ek, ⟨ea, eb, eo, ex, ey, ez⟩, ⟨rc, rq, rk, rr, rv, rg⟩⟩ = ⟨u, v, w, ⟨i', n', p', q', s', t', tk', ⟨ma', mb', mo', mx', my', mz'⟩⟩⟩ ∧ ((k : Int) < ((drawA bs).length : Int)) = True ∧ (k < (drawA bs).length) = True ∧ IntKind.i64.wrap ((k : Int) + 1) = ((k + 1 : Nat) : Int) ∧ (∀ x : Int, (x == x) = true) ∧ (∀ x : Int, (x != x) = false) ∧ (∀ x : ByteArray, (x == x) = true) ∧ (∀ x : ByteArray, (x != x) = false) ∧ (u > 3) = False ∧ (ek == 1) = true ∧ (ek == 3) = false ∧ (u == 0) = false ∧ (w != 0) = false ∧ (w == 1) = false from
        ⟨by rw [List.getElem?_map, hk1]; rfl, by simp, hx, eq_true (by omega), eq_true (by omega), by rw [wrapN (by omega) (by omega)]; rfl, fun x => by simp, fun x => by simp, bbRefl, bnRefl, eq_false (by omega), by first | (simp; omega) | (simp; done), by first | (simp; omega) | (simp; done), by first | (simp; omega) | (simp; done), by first | (simp; omega) | (simp; done), by first | (simp; omega) | (simp; done)⟩)
      simp only [Ev.tr] at hp
      refine amR_succ ?_
      repeat' (fail_if_success (with_reducible apply amR_id)); first
        | (refine guardP_mk (fun h => ?_) (fun h => ?_) <;> (refine go1 ?_; try simp only [decide_eq_true_eq, decide_eq_false_iff_not, Bool.not_true, Bool.not_false, Bool.not_eq_true', Bool.not_eq_false', beq_iff_eq, bne_iff_ne, beq_eq_false_iff_ne, bne_eq_false_iff_eq, ne_eq, Bool.false_eq_true, reduceCtorEq] at h))
        | (refine hK _ ?_; clear hK K Q1)
        | (refine hK _ _ rfl ?_; clear hK K; try refine go1 ?_)
        | (refine am_retP rfl ?_ rfl; first | refine go ?_ | rfl)
        | (refine am_retC [] rfl ?_ rfl rfl; first | refine go ?_ | rfl)
        | (refine am_retB [(1, 1), (2, 2), (3, 3), (4, 4)] rfl ?_ ?_ rfl <;> first | refine go ?_ | rfl)
        | (refine wkq ?_)
        | (refine am_rs tabOk kOk rfl fun K Q1 hK => ?_; refine go1 ?_)
        | (refine am_ds mixed tabOk kOk rfl rfl fun K hK => ?_; refine go1 ?_)
        | (refine am_dreg mixed tabOk kOk rfl rfl fun K hK => ?_; refine go1 ?_)
      all_goals try (refine amR_tidy [(1, 1), (2, 2), (3, 3), (4, 4)] [2, 3, 4, 5, 6, 7] 5 rfl ?_; refine go1 ?_; refine ihk)
      all_goals (clear ihk hp)
      all_goals (try (first | exact absurd trivial h | (exfalso; simp at h; omega)))
      all_goals (try omega)
    by_cases he3 : ek = 3
    · have h33 : ¬ (s' = 1 ∧ rq = q' ∧ rc = i ∧ rk = 1) := fun h => h32 ⟨he3, h⟩
      have hp := (show ((drawA bs).map Ev.tr)[k]? = some (Ev.tr ⟨ek, ⟨ea, eb, eo, ex, ey, ez⟩, ⟨rc, rq, rk, rr, rv, rg⟩⟩) ∧ ((drawA bs).map Ev.tr).length = (drawA bs).length ∧ stepF ⟨i, n, p, q', s', t, tk, ⟨ma', mb', mo', mx', my', mz'⟩⟩ ⟨ek, ⟨ea, eb, eo, ex, ey, ez⟩, ⟨rc, rq, rk, rr, rv, rg⟩⟩ = ⟨u, v, w, ⟨i', n', p', q', s', t', tk', ⟨ma', mb', mo', mx', my', mz'⟩⟩⟩ ∧ ((k : Int) < ((drawA bs).length : Int)) = True ∧ (k < (drawA bs).length) = True ∧ IntKind.i64.wrap ((k : Int) + 1) = ((k + 1 : Nat) : Int) ∧ (∀ x : Int, (x == x) = true) ∧ (∀ x : Int, (x != x) = false) ∧ (∀ x : ByteArray, (x == x) = true) ∧ (∀ x : ByteArray, (x != x) = false) ∧ (u > 3) = False ∧ (ek == 1) = false ∧ (ek == 3) = true ∧ (w != 0) = false ∧ (w == 1) = false from
        ⟨by rw [List.getElem?_map, hk1]; rfl, by simp, hx, eq_true (by omega), eq_true (by omega), by rw [wrapN (by omega) (by omega)]; rfl, fun x => by simp, fun x => by simp, bbRefl, bnRefl, eq_false (by omega), by first | (simp; omega) | (simp; done), by first | (simp; omega) | (simp; done), by first | (simp; omega) | (simp; done), by first | (simp; omega) | (simp; done)⟩)
      simp only [Ev.tr] at hp
      refine amR_succ ?_
      repeat' (fail_if_success (with_reducible apply amR_id)); first
        | (refine guardP_mk (fun h => ?_) (fun h => ?_) <;> (refine go1 ?_; try simp only [decide_eq_true_eq, decide_eq_false_iff_not, Bool.not_true, Bool.not_false, Bool.not_eq_true', Bool.not_eq_false', beq_iff_eq, bne_iff_ne, beq_eq_false_iff_ne, bne_eq_false_iff_eq, ne_eq, Bool.false_eq_true, reduceCtorEq] at h))
        | (refine hK _ ?_; clear hK K Q1)
        | (refine hK _ _ rfl ?_; clear hK K; try refine go1 ?_)
        | (refine am_retP rfl ?_ rfl; first | refine go ?_ | rfl)
        | (refine am_retC [] rfl ?_ rfl rfl; first | refine go ?_ | rfl)
        | (refine am_retB [(1, 1), (2, 2), (3, 3), (4, 4)] rfl ?_ ?_ rfl <;> first | refine go ?_ | rfl)
        | (refine wkq ?_)
        | (refine am_rs tabOk kOk rfl fun K Q1 hK => ?_; refine go1 ?_)
        | (refine am_ds mixed tabOk kOk rfl rfl fun K hK => ?_; refine go1 ?_)
        | (refine am_dreg mixed tabOk kOk rfl rfl fun K hK => ?_; refine go1 ?_)
      all_goals try (refine amR_tidy [(1, 1), (2, 2), (3, 3), (4, 4)] [2, 3, 4, 5, 6, 7] 5 rfl ?_; refine go1 ?_; refine ihk)
      all_goals (clear ihk hp)
      all_goals (try (first | exact absurd trivial h | (exfalso; simp at h; omega)))
      all_goals (try omega)
    ·
      have hp := (show ((drawA bs).map Ev.tr)[k]? = some (Ev.tr ⟨ek, ⟨ea, eb, eo, ex, ey, ez⟩, ⟨rc, rq, rk, rr, rv, rg⟩⟩) ∧ ((drawA bs).map Ev.tr).length = (drawA bs).length ∧ stepF ⟨i, n, p, q', s', t, tk, ⟨ma', mb', mo', mx', my', mz'⟩⟩ ⟨ek, ⟨ea, eb, eo, ex, ey, ez⟩, ⟨rc, rq, rk, rr, rv, rg⟩⟩ = ⟨u, v, w, ⟨i', n', p', q', s', t', tk', ⟨ma', mb', mo', mx', my', mz'⟩⟩⟩ ∧ ((k : Int) < ((drawA bs).length : Int)) = True ∧ (k < (drawA bs).length) = True ∧ IntKind.i64.wrap ((k : Int) + 1) = ((k + 1 : Nat) : Int) ∧ (∀ x : Int, (x == x) = true) ∧ (∀ x : Int, (x != x) = false) ∧ (∀ x : ByteArray, (x == x) = true) ∧ (∀ x : ByteArray, (x != x) = false) ∧ (u > 3) = False ∧ (ek == 1) = false ∧ (ek == 3) = false ∧ (w != 0) = false ∧ (w == 1) = false from
        ⟨by rw [List.getElem?_map, hk1]; rfl, by simp, hx, eq_true (by omega), eq_true (by omega), by rw [wrapN (by omega) (by omega)]; rfl, fun x => by simp, fun x => by simp, bbRefl, bnRefl, eq_false (by omega), by first | (simp; omega) | (simp; done), by first | (simp; omega) | (simp; done), by first | (simp; omega) | (simp; done), by first | (simp; omega) | (simp; done)⟩)
      simp only [Ev.tr] at hp
      refine amR_succ ?_
      repeat' (fail_if_success (with_reducible apply amR_id)); first
        | (refine guardP_mk (fun h => ?_) (fun h => ?_) <;> (refine go1 ?_; try simp only [decide_eq_true_eq, decide_eq_false_iff_not, Bool.not_true, Bool.not_false, Bool.not_eq_true', Bool.not_eq_false', beq_iff_eq, bne_iff_ne, beq_eq_false_iff_ne, bne_eq_false_iff_eq, ne_eq, Bool.false_eq_true, reduceCtorEq] at h))
        | (refine hK _ ?_; clear hK K Q1)
        | (refine hK _ _ rfl ?_; clear hK K; try refine go1 ?_)
        | (refine am_retP rfl ?_ rfl; first | refine go ?_ | rfl)
        | (refine am_retC [] rfl ?_ rfl rfl; first | refine go ?_ | rfl)
        | (refine am_retB [(1, 1), (2, 2), (3, 3), (4, 4)] rfl ?_ ?_ rfl <;> first | refine go ?_ | rfl)
        | (refine wkq ?_)
        | (refine am_rs tabOk kOk rfl fun K Q1 hK => ?_; refine go1 ?_)
        | (refine am_ds mixed tabOk kOk rfl rfl fun K hK => ?_; refine go1 ?_)
        | (refine am_dreg mixed tabOk kOk rfl rfl fun K hK => ?_; refine go1 ?_)
      all_goals try (refine amR_tidy [(1, 1), (2, 2), (3, 3), (4, 4)] [2, 3, 4, 5, 6, 7] 5 rfl ?_; refine go1 ?_; refine ihk)
      all_goals (clear ihk hp)
      all_goals (try (first | exact absurd trivial h | (exfalso; simp at h; omega)))
      all_goals (try omega)
end Go.Proofs.YtgalnkilcajgcaaA
