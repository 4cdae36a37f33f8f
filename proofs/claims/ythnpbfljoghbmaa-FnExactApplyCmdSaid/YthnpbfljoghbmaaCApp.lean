/- The reference's tables: a command carried out. -/
import Derived.Test.YthnpbfljoghbmaaCSpec3
import Derived.Test.YthnpbfljoghbmaaCTell
namespace Go.Proofs.YthnpbfljoghbmaaA
open Go.Proofs
set_option autoImplicit false
set_option linter.unusedVariables false
set_option linter.unusedSimpArgs false
set_option maxRecDepth 4000
def unPrR : List (List Tree) → Option (List Pr)
  | [] => some []
  | [.v (.string k), .v (.string v)] :: l => (unPrR l).map (⟨k, v⟩ :: ·)
  | _ => none
def unSsR : List (List Tree) → Option (List Ss)
  | [] => some []
  | [.v (.int .i64 a), .v (.int .i64 b), .v (.int .i64 c), .v (.string v)] :: l => (unSsR l).map (⟨a, b, c, v⟩ :: ·)
  | _ => none
@[go_sem] theorem unPrR_map (l : List Pr) : unPrR (l.map Pr.tr) = some l := by
  induction l with
  | nil => rfl
  | cons p l ih => simp only [List.map_cons, Pr.tr, unPrR] at ih ⊢; rw [ih]; rfl
@[go_sem] theorem unSsR_map (l : List Ss) : unSsR (l.map Ss.tr) = some l := by
  induction l with
  | nil => rfl
  | cons p l ih => simp only [List.map_cons, Ss.tr, unSsR] at ih ⊢; rw [ih]; rfl
theorem unPrR_ok : ∀ {xs : List (List Tree)} {l : List Pr}, unPrR xs = some l → xs = l.map Pr.tr
  | [], l, h => by cases h; rfl
  | [.v (.string k), .v (.string v)] :: xs, l, h => by
    simp only [unPrR] at h
    cases hl : unPrR xs with
    | none => rw [hl] at h; cases h
    | some l' => rw [hl] at h; cases h; rw [unPrR_ok hl]; rfl
theorem unSsR_ok : ∀ {xs : List (List Tree)} {l : List Ss}, unSsR xs = some l → xs = l.map Ss.tr
  | [], l, h => by cases h; rfl
  | [.v (.int .i64 a), .v (.int .i64 b), .v (.int .i64 c), .v (.string v)] :: xs, l, h => by
    simp only [unSsR] at h
    cases hl : unSsR xs with
    | none => rw [hl] at h; cases h
    | some l' => rw [hl] at h; cases h; rw [unSsR_ok hl]; rfl
structure Tb where
  ps : List Pr
  ss : List Ss
  deriving DecidableEq
def Tb.cv (t : Tb) : List CV := [.t (.sl 2 (t.ps.map Pr.tr)), .t (.sl 4 (t.ss.map Ss.tr))]
def unTb : List CV → Option Tb
  | [.t (.sl 2 x), .t (.sl 4 y)] => (unPrR x).bind fun p => (unSsR y).map fun s => ⟨p, s⟩
  | _ => none
theorem unTb_ok {xs : List CV} {c : Tb} (h : unTb xs = some c) : xs = c.cv := by
  unfold unTb at h
  split at h
  · rename_i x y
    obtain ⟨p, h1, h2⟩ := Option.bind_eq_some_iff.1 h
    obtain ⟨s, h3, h4⟩ := Option.map_eq_some_iff.1 h2
    subst h4
    rw [unPrR_ok h1, unSsR_ok h3]
    rfl
  · cases h
attribute [go_sem] unTb Tb.cv Ss.cv Pr.cv Option.bind_some Option.map_some
def tbOk (t : Tb) : Bool := decide (t.ps.length ≤ 1048576 ∧ t.ss.length ≤ 1048576)
def tbOk2 (t : Tb) : Bool := decide (t.ps.length ≤ 2097152 ∧ t.ss.length ≤ 2097152)
theorem tbOk_ok {t : Tb} (h : tbOk t = true) : t.ps.length ≤ 1048576 ∧ t.ss.length ≤ 1048576 := by simpa [tbOk] using h
theorem tbOk2_ok {t : Tb} (h : tbOk2 t = true) : t.ps.length ≤ 2097152 ∧ t.ss.length ≤ 2097152 := by simpa [tbOk2] using h
def kt5_0_1 (t : Tb) : Option TV := if tbOk2 t = true then some (.agg t.cv) else none
def kt5_0_0 (r0 : List CV) : Option TV := (unTb r0).bind (kt5_0_1)
def kt5_0 : List TV → Option TV
  | [.agg r0] => kt5_0_0 r0
  | _ => none
def kt5_1_1 (c : Int) (t : Tb) : Option TV := if tbOk2 t = true then some (.agg (sesF t.ss c).cv) else none
def kt5_1_0 (c : Int) (r0 : List CV) : Option TV := (unTb r0).bind (kt5_1_1 c)
def kt5_1 : List TV → Option TV
  | [.agg r0, .c (.t (.v (.int .i64 c)))] => kt5_1_0 c r0
  | _ => none
def kt5_2_1 (c : ByteArray) (t : Tb) : Option TV := if tbOk2 t = true then some (.tup [str (valF t.ps c), bool (getP c t.ps).isSome]) else none
def kt5_2_0 (c : ByteArray) (r0 : List CV) : Option TV := (unTb r0).bind (kt5_2_1 c)
def kt5_2 : List TV → Option TV
  | [.agg r0, .c (.t (.v (.string c)))] => kt5_2_0 c r0
  | _ => none
def kt5_3_1 (c : ByteArray) (put : Bool) (v : ByteArray) (s : List Pr) : Option TV := if s.length ≤ 2097152 then some (ro 2 ((withF s c put v).map Pr.tr)) else none
def kt5_3_0 (c : ByteArray) (put : Bool) (v : ByteArray) (r0 : List (List Tree)) : Option TV := (unPrR r0).bind (kt5_3_1 c put v)
def kt5_3 : List TV → Option TV
  | [.c (.t (.sl 2 r0)), .c (.t (.v (.string c))), .c (.t (.v (.bool put))), .c (.t (.v (.string v)))] => kt5_3_0 c put v r0
  | _ => none
def kt5_4_2 (s : List Ss) (x : Ss) : Option TV := if s.length ≤ 2097152 then some (ro 4 ((wsF s x).map Ss.tr)) else none
def kt5_4_1 (r1 : List CV) (s : List Ss) : Option TV := (unSs r1).bind (kt5_4_2 s)
def kt5_4_0 (r0 : List (List Tree)) (r1 : List CV) : Option TV := (unSsR r0).bind (kt5_4_1 r1)
def kt5_4 : List TV → Option TV
  | [.c (.t (.sl 4 r0)), .agg r1] => kt5_4_0 r0 r1
  | _ => none
def kt5_5_1 (t : Tb) : Option TV := if tbOk t = true then some (bool (tbF t.ps t.ss)) else none
def kt5_5_0 (r0 : List CV) : Option TV := (unTb r0).bind (kt5_5_1)
def kt5_5 : List TV → Option TV
  | [.agg r0] => kt5_5_0 r0
  | _ => none
def kt5_call (f : FuncId) (args : List TV) : Option TV := if f = 127 then orO (kt5_0 args) (kt4.call f args) else if f = 144 then orO (kt5_1 args) (kt4.call f args) else if f = 145 then orO (kt5_2 args) (kt4.call f args) else if f = 146 then orO (kt5_3 args) (kt4.call f args) else if f = 147 then orO (kt5_4 args) (kt4.call f args) else if f = 125 then orO (kt5_5 args) (kt4.call f args) else kt4.call f args
def kt5 : Kn := { call := kt5_call, eqs := eqTys, callB := kt4.callB }
attribute [go_sem] kt5_0_0 kt5_0_1 kt5_0 kt5_1_0 kt5_1_1 kt5_1 kt5_2_0 kt5_2_1 kt5_2 kt5_3_0 kt5_3_1 kt5_3 kt5_4_0 kt5_4_1 kt5_4_2 kt5_4 kt5_5_0 kt5_5_1 kt5_5 kt5_call kt5
theorem kt5_ok : ∀ f args res, kt5_call f args = some res → TC Try.prog f args [] 1 res [] 1 := by
  intro f args res h
  unfold kt5_call at h
  split at h
  · rename_i e; subst e
    have hh := orO_elim h
    clear h
    rcases hh with h | h
    rotate_left
    · exact kT4.call _ _ _ h
    unfold kt5_0 at h
    split at h
    · rename_i r0; unfold kt5_0_0 at h
      obtain ⟨t, e0, h⟩ := Option.bind_eq_some_iff.1 h
      unfold kt5_0_1 at h
      split at h
      · rename_i hc; cases h; rw [unTb_ok e0]; exact cpy_tc t.ps t.ss (tbOk2_ok hc).1 (tbOk2_ok hc).2
      · cases h
    · cases h
  split at h
  · rename_i e; subst e
    have hh := orO_elim h
    clear h
    rcases hh with h | h
    rotate_left
    · exact kT4.call _ _ _ h
    unfold kt5_1 at h
    split at h
    · rename_i r0 c; unfold kt5_1_0 at h
      obtain ⟨t, e0, h⟩ := Option.bind_eq_some_iff.1 h
      unfold kt5_1_1 at h
      split at h
      · rename_i hc; cases h; rw [unTb_ok e0]; exact ses_tc t.ps t.ss c (tbOk2_ok hc).2
      · cases h
    · cases h
  split at h
  · rename_i e; subst e
    have hh := orO_elim h
    clear h
    rcases hh with h | h
    rotate_left
    · exact kT4.call _ _ _ h
    unfold kt5_2 at h
    split at h
    · rename_i r0 c; unfold kt5_2_0 at h
      obtain ⟨t, e0, h⟩ := Option.bind_eq_some_iff.1 h
      unfold kt5_2_1 at h
      split at h
      · rename_i hc; cases h; rw [unTb_ok e0]; exact val_tc t.ps t.ss c (tbOk2_ok hc).1
      · cases h
    · cases h
  split at h
  · rename_i e; subst e
    have hh := orO_elim h
    clear h
    rcases hh with h | h
    rotate_left
    · exact kT4.call _ _ _ h
    unfold kt5_3 at h
    split at h
    · rename_i r0 c put v; unfold kt5_3_0 at h
      obtain ⟨s, e0, h⟩ := Option.bind_eq_some_iff.1 h
      unfold kt5_3_1 at h
      split at h
      · rename_i hc; cases h; rw [unPrR_ok e0]; exact with_tc s c put v hc
      · cases h
    · cases h
  split at h
  · rename_i e; subst e
    have hh := orO_elim h
    clear h
    rcases hh with h | h
    rotate_left
    · exact kT4.call _ _ _ h
    unfold kt5_4 at h
    split at h
    · rename_i r0 r1; unfold kt5_4_0 at h
      obtain ⟨s, e0, h⟩ := Option.bind_eq_some_iff.1 h
      unfold kt5_4_1 at h
      obtain ⟨x, e1, h⟩ := Option.bind_eq_some_iff.1 h
      unfold kt5_4_2 at h
      split at h
      · rename_i hc; cases h; rw [unSsR_ok e0, unSs_ok e1]; exact ws_tc s x hc
      · cases h
    · cases h
  split at h
  · rename_i e; subst e
    have hh := orO_elim h
    clear h
    rcases hh with h | h
    rotate_left
    · exact kT4.call _ _ _ h
    unfold kt5_5 at h
    split at h
    · rename_i r0; unfold kt5_5_0 at h
      obtain ⟨t, e0, h⟩ := Option.bind_eq_some_iff.1 h
      unfold kt5_5_1 at h
      split at h
      · rename_i hc; cases h; rw [unTb_ok e0]; exact tbS_tc t.ps t.ss (tbOk_ok hc).1 (tbOk_ok hc).2
      · cases h
    · cases h
  · exact kT4.call f args res h
theorem kT5 : KnOk Try.prog kt5 := ⟨kt5_ok, eqTysOk, kT4.callB⟩
structure An where
  co : Int
  re : Int
  v : ByteArray
  t : Tb
  deriving DecidableEq
def An.cv (a : An) : List CV := [ci a.co, ci a.re, cs a.v, .t (.sl 2 (a.t.ps.map Pr.tr)), .t (.sl 4 (a.t.ss.map Ss.tr))]
def chS (s : List Pr) (c : Cm) : (Int × ByteArray) × List Pr :=
  if c.op = 1 then ((if (getP c.k s).isSome = true then 1 else 2, valF s c.k), s)
  else if c.op = 2 then (if (getP c.k s).isSome = true ∨ s.length < 256 then ((1, ⟨#[]⟩), withF s c.k true c.v) else ((4, ⟨#[]⟩), s))
  else if c.op = 3 then (if (getP c.k s).isSome = true then ((1, valF s c.k), withF s c.k false c.v) else ((2, valF s c.k), s))
  else if (getP c.k s).isSome = true then (if valF s c.k = c.o then ((1, ⟨#[]⟩), withF s c.k true c.v) else ((3, valF s c.k), s)) else ((2, ⟨#[]⟩), s)
def refF (t : Tb) (c : Cm) : An :=
  if c.op = 0 then ⟨1, 0, ⟨#[]⟩, t⟩
  else if c.sq < (sesF t.ss c.cl).sq then ⟨3, 0, ⟨#[]⟩, t⟩
  else if (sesF t.ss c.cl).sq = c.sq then ⟨2, (sesF t.ss c.cl).co, (sesF t.ss c.cl).v, t⟩
  else ⟨0, (chS t.ps c).1.1, (chS t.ps c).1.2, ⟨(chS t.ps c).2, wsF t.ss ⟨c.cl, c.sq, (chS t.ps c).1.1, (chS t.ps c).1.2⟩⟩⟩
set_option maxHeartbeats 64000000 in
theorem app_tc (t : Tb) (c : Cm) (ht : tbOk2 t = true) : TC Try.prog 102 [.agg t.cv, .agg c.cv] [] 1 (.agg (refF t c).cv) [] 1 := by
  refine tc_cell tabOk Try.func102 rfl 116 rfl (Nat.le_of_ble_eq_true rfl) (by decide) [(4, some 94)] rfl (by intro id x h; cases h) ?_
  intro w0 E0
  have kOk := kT5
  obtain ⟨s, u⟩ := t
  obtain ⟨a, q, o, x, y, z⟩ := c
  have hk := tbOk2_ok ht
  simp only [Cm.cv, Tb.cv]
  have hs : (s.length ≤ 2097152) = True := eq_true hk.1
  have hu : (u.length ≤ 2097152) = True := eq_true hk.2
  have base := And.intro ht (And.intro hs (And.intro hu (show (s.map Pr.tr).length = s.length from by simp)))
  by_cases h0 : o = 0
  · subst h0
    have e : refF ⟨s, u⟩ ⟨a, q, 0, x, y, z⟩ = ⟨1, 0, ⟨#[]⟩, ⟨s, u⟩⟩ := by simp [refF]
    rw [e]
    have hp := And.intro base (show ((0 : Int) == 0) = true from rfl)
    refine wk1 ?_
    refine am_retC [] rfl ?_ rfl rfl
    first | rfl | (refine go ?_; rfl)
  have b0 : (o == 0) = false := by simpa using h0
  by_cases h1 : q < (sesF u a).sq
  · have e : refF ⟨s, u⟩ ⟨a, q, o, x, y, z⟩ = ⟨3, 0, ⟨#[]⟩, ⟨s, u⟩⟩ := by simp [refF, h0, h1]
    rw [e]
    have hp := And.intro base (And.intro b0 (show ((sesF u a).sq > q) = True from eq_true h1))
    refine wk1 ?_
    refine am_retC [] rfl ?_ rfl rfl
    first | rfl | (refine go ?_; rfl)
  by_cases h2 : (sesF u a).sq = q
  · have e : refF ⟨s, u⟩ ⟨a, q, o, x, y, z⟩ = ⟨2, (sesF u a).co, (sesF u a).v, ⟨s, u⟩⟩ := by simp [refF, h0, h1, h2]
    rw [e]
    have hp := And.intro base (And.intro b0 (show ((sesF u a).sq > q) = False ∧ ((sesF u a).sq == q) = true from ⟨eq_false h1, by simpa using h2⟩))
    refine wk1 ?_
    refine am_retC [] rfl ?_ rfl rfl
    first | rfl | (refine go ?_; rfl)
  have e : refF ⟨s, u⟩ ⟨a, q, o, x, y, z⟩ = ⟨0, (chS s ⟨a, q, o, x, y, z⟩).1.1, (chS s ⟨a, q, o, x, y, z⟩).1.2, ⟨(chS s ⟨a, q, o, x, y, z⟩).2, wsF u ⟨a, q, (chS s ⟨a, q, o, x, y, z⟩).1.1, (chS s ⟨a, q, o, x, y, z⟩).1.2⟩⟩⟩ := by simp [refF, h0, h1, h2]
  rw [e]
  clear e
  have base := And.intro base (And.intro b0 (show ((sesF u a).sq > q) = False ∧ ((sesF u a).sq == q) = false from ⟨eq_false h1, by simpa using h2⟩))
  by_cases o1 : o = 1
  · subst o1
    cases hg : (getP x s).isSome with
    | true =>
      have e : chS s ⟨a, q, 1, x, y, z⟩ = ((1, valF s x), s) := by simp [chS, hg]
      rw [e]
      have hp := And.intro base (And.intro hg (show ((1 : Int) == 1) = true from rfl))
      refine wk1 ?_
      refine am_retC [] rfl ?_ rfl rfl
      first | rfl | (refine go ?_; rfl)
    | false =>
      have e : chS s ⟨a, q, 1, x, y, z⟩ = ((2, valF s x), s) := by simp [chS, hg]
      rw [e]
      have hp := And.intro base (And.intro hg (show ((1 : Int) == 1) = true from rfl))
      refine wk1 ?_
      refine am_retC [] rfl ?_ rfl rfl
      first | rfl | (refine go ?_; rfl)
  have b1 : (o == 1) = false := by simpa using o1
  by_cases o2 : o = 2
  · subst o2
    cases hg : (getP x s).isSome with
    | true =>
      have e : chS s ⟨a, q, 2, x, y, z⟩ = ((1, ⟨#[]⟩), withF s x true y) := by simp [chS, hg]
      rw [e]
      have hp := And.intro base (And.intro b1 (And.intro hg (show ((2 : Int) == 2) = true from rfl)))
      refine wk1 ?_
      refine am_retC [] rfl ?_ rfl rfl
      first | rfl | (refine go ?_; rfl)
    | false =>
      by_cases hl : s.length < 256
      · have e : chS s ⟨a, q, 2, x, y, z⟩ = ((1, ⟨#[]⟩), withF s x true y) := by simp [chS, hg, hl]
        rw [e]
        have hp := And.intro base (And.intro b1 (And.intro hg (show ((2 : Int) == 2) = true ∧ ((s.length : Int) < 256) = True from ⟨rfl, eq_true (by omega)⟩)))
        refine wk1 ?_
        refine am_retC [] rfl ?_ rfl rfl
        first | rfl | (refine go ?_; rfl)
      · have e : chS s ⟨a, q, 2, x, y, z⟩ = ((4, ⟨#[]⟩), s) := by simp [chS, hg, hl]
        rw [e]
        have hp := And.intro base (And.intro b1 (And.intro hg (show ((2 : Int) == 2) = true ∧ ((s.length : Int) < 256) = False from ⟨rfl, eq_false (by omega)⟩)))
        refine wk1 ?_
        refine am_retC [] rfl ?_ rfl rfl
        first | rfl | (refine go ?_; rfl)
  have b2 : (o == 2) = false := by simpa using o2
  by_cases o3 : o = 3
  · subst o3
    cases hg : (getP x s).isSome with
    | true =>
      have e : chS s ⟨a, q, 3, x, y, z⟩ = ((1, valF s x), withF s x false y) := by simp [chS, hg]
      rw [e]
      have hp := And.intro base (And.intro b1 (And.intro b2 (And.intro hg (show ((3 : Int) == 3) = true from rfl))))
      refine wk1 ?_
      refine am_retC [] rfl ?_ rfl rfl
      first | rfl | (refine go ?_; rfl)
    | false =>
      have e : chS s ⟨a, q, 3, x, y, z⟩ = ((2, valF s x), s) := by simp [chS, hg]
      rw [e]
      have hp := And.intro base (And.intro b1 (And.intro b2 (And.intro hg (show ((3 : Int) == 3) = true from rfl))))
      refine wk1 ?_
      refine am_retC [] rfl ?_ rfl rfl
      first | rfl | (refine go ?_; rfl)
  have b3 : (o == 3) = false := by simpa using o3
  cases hg : (getP x s).isSome with
  | true =>
    by_cases hv : valF s x = z
    · have e : chS s ⟨a, q, o, x, y, z⟩ = ((1, ⟨#[]⟩), withF s x true y) := by simp [chS, hg, o1, o2, o3, hv]
      rw [e]
      have hp := And.intro base (And.intro b1 (And.intro b2 (And.intro b3 (And.intro hg (show decide (valF s x = z) = true from by simpa using hv)))))
      refine wk1 ?_
      refine am_retC [] rfl ?_ rfl rfl
      first | rfl | (refine go ?_; rfl)
    · have e : chS s ⟨a, q, o, x, y, z⟩ = ((3, valF s x), s) := by simp [chS, hg, o1, o2, o3, hv]
      rw [e]
      have hp := And.intro base (And.intro b1 (And.intro b2 (And.intro b3 (And.intro hg (show decide (valF s x = z) = false from by simpa using hv)))))
      refine wk1 ?_
      refine am_retC [] rfl ?_ rfl rfl
      first | rfl | (refine go ?_; rfl)
  | false =>
    have e : chS s ⟨a, q, o, x, y, z⟩ = ((2, ⟨#[]⟩), s) := by simp [chS, hg, o1, o2, o3]
    rw [e]
    have hp := And.intro base (And.intro b1 (And.intro b2 (And.intro b3 hg)))
    refine wk1 ?_
    refine am_retC [] rfl ?_ rfl rfl
    first | rfl | (refine go ?_; rfl)
def kt6_0_2 (t : Tb) (c : Cm) : Option TV := if tbOk2 t = true then some (.agg (refF t c).cv) else none
def kt6_0_1 (r1 : List CV) (t : Tb) : Option TV := (unCm r1).bind (kt6_0_2 t)
def kt6_0_0 (r0 : List CV) (r1 : List CV) : Option TV := (unTb r0).bind (kt6_0_1 r1)
def kt6_0 : List TV → Option TV
  | [.agg r0, .agg r1] => kt6_0_0 r0 r1
  | _ => none
def kt6_call (f : FuncId) (args : List TV) : Option TV := if f = 102 then orO (kt6_0 args) (kt5.call f args) else kt5.call f args
def kt6 : Kn := { call := kt6_call, eqs := eqTys, callB := kt5.callB }
attribute [go_sem] kt6_0_0 kt6_0_1 kt6_0_2 kt6_0 kt6_call kt6
theorem kt6_ok : ∀ f args res, kt6_call f args = some res → TC Try.prog f args [] 1 res [] 1 := by
  intro f args res h
  unfold kt6_call at h
  split at h
  · rename_i e; subst e
    have hh := orO_elim h
    clear h
    rcases hh with h | h
    rotate_left
    · exact kT5.call _ _ _ h
    unfold kt6_0 at h
    split at h
    · rename_i r0 r1; unfold kt6_0_0 at h
      obtain ⟨t, e0, h⟩ := Option.bind_eq_some_iff.1 h
      unfold kt6_0_1 at h
      obtain ⟨c, e1, h⟩ := Option.bind_eq_some_iff.1 h
      unfold kt6_0_2 at h
      split at h
      · rename_i hc; cases h; rw [unTb_ok e0, unCm_ok e1]; exact app_tc t c hc
      · cases h
    · cases h
  · exact kT5.call f args res h
theorem kT6 : KnOk Try.prog kt6 := ⟨kt6_ok, eqTysOk, kT5.callB⟩
attribute [go_sem] An.cv
end Go.Proofs.YthnpbfljoghbmaaA
