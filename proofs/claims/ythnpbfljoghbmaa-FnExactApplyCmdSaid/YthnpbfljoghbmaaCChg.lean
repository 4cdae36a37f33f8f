/- Tables at work: one command carried out on the two maps. -/
import Derived.Test.YthnpbfljoghbmaaCNew
import Derived.Test.YthnpbfljoghbmaaAmNil
namespace Go.Proofs.YthnpbfljoghbmaaA
open Go.Proofs
set_option autoImplicit false
set_option linter.unusedVariables false
set_option linter.unusedSimpArgs false
set_option maxRecDepth 4000
theorem dom3 {o p q : AObj} (id : Nat) (x : AObj) (h : look id [(1, o), (2, p), (3, q)] = some x) : id < 4 := dom3n id x h
def unPrs : List (Value × Value) → Option (List Pr)
  | [] => some []
  | (.string k, .string v) :: l => (unPrs l).map (⟨k, v⟩ :: ·)
  | _ => none
@[go_sem] theorem unPrs_map (l : List Pr) : unPrs (l.map entP) = some l := by
  induction l with
  | nil => rfl
  | cons p l ih => simp only [List.map_cons, entP, unPrs] at ih ⊢; rw [ih]; rfl
theorem unPrs_ok : ∀ {xs : List (Value × Value)} {l : List Pr}, unPrs xs = some l → xs = l.map entP
  | [], l, h => by cases h; rfl
  | (.string k, .string v) :: xs, l, h => by
    simp only [unPrs] at h
    cases hl : unPrs xs with
    | none => rw [hl] at h; cases h
    | some l' => rw [hl] at h; cases h; rw [unPrs_ok hl]; rfl
def unSE : Value × Value → Option Ss
  | (.int .i64 k, .agg ⟨[.int .i64 a, .int .i64 q, .int .i64 o, .string v]⟩) => if k = a then some ⟨a, q, o, v⟩ else none
  | _ => none
def unSss : List (Value × Value) → Option (List Ss)
  | [] => some []
  | p :: l => match unSE p, unSss l with
    | some s, some l' => some (s :: l')
    | _, _ => none
@[go_sem] theorem unSss_map (l : List Ss) : unSss (l.map entS) = some l := by
  induction l with
  | nil => rfl
  | cons p l ih => simp only [List.map_cons, unSss, ih, entS, unSE, if_true]
theorem unSE_ok {p : Value × Value} {s : Ss} (h : unSE p = some s) : p = entS s := by
  unfold unSE at h
  split at h
  · split at h
    · rename_i e; cases h; rw [e]; rfl
    · cases h
  · cases h
theorem unSss_ok : ∀ {xs : List (Value × Value)} {l : List Ss}, unSss xs = some l → xs = l.map entS
  | [], l, h => by cases h; rfl
  | p :: xs, l, h => by
    simp only [unSss] at h
    split at h
    · rename_i s l' h1 h2
      cases h
      rw [unSE_ok h1, unSss_ok h2]; rfl
    · cases h
def chgF (l : List Pr) (c : Cm) : (Int × ByteArray) × List Pr :=
  if c.op = 2 then (if getP c.k l = none ∧ l.length = 256 then ((4, ⟨#[]⟩), l) else ((1, ⟨#[]⟩), setP ⟨c.k, c.v⟩ l))
  else match getP c.k l with
    | none => ((2, ⟨#[]⟩), l)
    | some p => if c.op = 3 then ((1, p.v), delP c.k l) else if c.op = 4 then (if p.v = c.o then ((1, ⟨#[]⟩), setP ⟨c.k, c.v⟩ l) else ((3, p.v), l)) else ((1, p.v), l)
set_option maxHeartbeats 16000000 in
theorem chg_tc (l : List Pr) (fs : List (Value × Value)) (c : Cm) : TC Try.prog 148 [.c (.ptr 1 0), .agg c.cv] [(1, .cells [.mp 2, .mp 3]), (2, .mp none (l.map entP)), (3, .mp (some .i64) fs)] 4
    (.tup [int (chgF l c).1.1, str (chgF l c).1.2]) [(1, .cells [.mp 2, .mp 3]), (2, .mp none ((chgF l c).2.map entP)), (3, .mp (some .i64) fs)] 4 := by
  refine tc_intro Try.func148 rfl 75 rfl (Nat.le_of_ble_eq_true rfl) (by decide) [4, 5] rfl dom3 ?_
  intro w0 E0
  have kOk := kT1
  obtain ⟨a, q, o, x, y, z⟩ := c
  simp only [Cm.cv]
  have hg := getP_m x l
  have hs := setP_m x y l
  have hd := delP_m x l
  have hn : (l.map entP).length = l.length := by simp
  by_cases h2 : o = 2
  · subst h2
    cases hx : getP x l with
    | some p =>
      obtain ⟨j, hj⟩ := hg.2 p hx
      have e : chgF l ⟨a, q, 2, x, y, z⟩ = ((1, ⟨#[]⟩), setP ⟨x, y⟩ l) := by simp [chgF, hx]
      rw [e]
      have hp := And.intro hj (And.intro hs (And.intro hn (show ((2 : Int) == 2) = true from rfl)))
      refine wk1 ?_
      refine am_retB [(1, 1), (2, 2), (3, 3)] rfl ?_ ?_ rfl <;> first | refine go ?_ | rfl
    | none =>
      have hj := hg.1 hx
      by_cases hl : l.length = 256
      · have e : chgF l ⟨a, q, 2, x, y, z⟩ = ((4, ⟨#[]⟩), l) := by simp [chgF, hx, hl]
        rw [e]
        have hp := And.intro hj (And.intro hs (And.intro hn (show ((2 : Int) == 2) = true ∧ ((l.length : Int) == 256) = true from ⟨rfl, by simp; omega⟩)))
        refine wk1 ?_
        refine am_retB [(1, 1), (2, 2), (3, 3)] rfl ?_ ?_ rfl <;> first | refine go ?_ | rfl
      · have e : chgF l ⟨a, q, 2, x, y, z⟩ = ((1, ⟨#[]⟩), setP ⟨x, y⟩ l) := by simp [chgF, hx, hl]
        rw [e]
        have hp := And.intro hj (And.intro hs (And.intro hn (show ((2 : Int) == 2) = true ∧ ((l.length : Int) == 256) = false from ⟨rfl, by simp; omega⟩)))
        refine wk1 ?_
        refine am_retB [(1, 1), (2, 2), (3, 3)] rfl ?_ ?_ rfl <;> first | refine go ?_ | rfl
  · have b2 : (o == 2) = false := by simpa using h2
    cases hx : getP x l with
    | none =>
      have hj := hg.1 hx
      have e : chgF l ⟨a, q, o, x, y, z⟩ = ((2, ⟨#[]⟩), l) := by simp [chgF, hx, h2]
      rw [e]
      have hp := And.intro hj b2
      refine wk1 ?_
      refine am_retB [(1, 1), (2, 2), (3, 3)] rfl ?_ ?_ rfl <;> first | refine go ?_ | rfl
    | some p =>
      obtain ⟨j, hj⟩ := hg.2 p hx
      by_cases h3 : o = 3
      · subst h3
        have e : chgF l ⟨a, q, 3, x, y, z⟩ = ((1, p.v), delP x l) := by simp [chgF, hx]
        rw [e]
        have hp := And.intro hj (And.intro hd (And.intro b2 (show ((3 : Int) == 3) = true ∧ ((3 : Int) == 4) = false from ⟨rfl, rfl⟩)))
        refine wk1 ?_
        refine am_retB [(1, 1), (2, 2), (3, 3)] rfl ?_ ?_ rfl <;> first | refine go ?_ | rfl
      have b3 : (o == 3) = false := by simpa using h3
      by_cases h4 : o = 4
      · subst h4
        by_cases hv : p.v = z
        · have e : chgF l ⟨a, q, 4, x, y, z⟩ = ((1, ⟨#[]⟩), setP ⟨x, y⟩ l) := by simp [chgF, hx, hv]
          rw [e]
          have hp := And.intro hj (And.intro hs (And.intro b2 (And.intro b3 (show ((4 : Int) == 4) = true ∧ decide (p.v = z) = true from ⟨rfl, by simpa using hv⟩))))
          refine wk1 ?_
          refine am_retB [(1, 1), (2, 2), (3, 3)] rfl ?_ ?_ rfl <;> first | refine go ?_ | rfl
        · have e : chgF l ⟨a, q, 4, x, y, z⟩ = ((3, p.v), l) := by simp [chgF, hx, hv]
          rw [e]
          have hp := And.intro hj (And.intro hs (And.intro b2 (And.intro b3 (show ((4 : Int) == 4) = true ∧ decide (p.v = z) = false from ⟨rfl, by simpa using hv⟩))))
          refine wk1 ?_
          refine am_retB [(1, 1), (2, 2), (3, 3)] rfl ?_ ?_ rfl <;> first | refine go ?_ | rfl
      · have b4 : (o == 4) = false := by simpa using h4
        have e : chgF l ⟨a, q, o, x, y, z⟩ = ((1, p.v), l) := by simp [chgF, hx, h2, h3, h4]
        rw [e]
        have hp := And.intro hj (And.intro b2 (And.intro b3 b4))
        refine wk1 ?_
        refine am_retB [(1, 1), (2, 2), (3, 3)] rfl ?_ ?_ rfl <;> first | refine go ?_ | rfl
def kt2_0_2 (fs : List (Value × Value)) (c : Cm) (l : List Pr) : CB := some (.tup [int (chgF l c).1.1, str (chgF l c).1.2], [(1, .cells [.mp 2, .mp 3]), (2, .mp none ((chgF l c).2.map entP)), (3, .mp (some .i64) fs)], 4)
def kt2_0_1 (fs : List (Value × Value)) (r0 : List (Value × Value)) (c : Cm) : CB := (unPrs r0).bind (kt2_0_2 fs c)
def kt2_0_0 (fs : List (Value × Value)) (x0 : List CV) (r0 : List (Value × Value)) : CB := (unCm x0).bind (kt2_0_1 fs r0)
def kt2_0 : List TV → List (Nat × AObj) → CB
  | [.c (.ptr 1 0), .agg x0], [(1, .cells [.mp 2, .mp 3]), (2, .mp none r0), (3, .mp (some .i64) fs)] => kt2_0_0 fs x0 r0
  | _, _ => none
def kt2_call (f : FuncId) (args : List TV) (o : List (Nat × AObj)) : CB := if f = 148 then orO (kt2_0 args o) (kt1.callB f args o) else kt1.callB f args o
def kt2 : Kn := { call := kt1.call, eqs := eqTys, callB := kt2_call }
attribute [go_sem] kt2_0_0 kt2_0_1 kt2_0_2 kt2_0 kt2_call kt2
theorem kt2_ok : ∀ f args o res o1 n1, kt2_call f args o = some (res, o1, n1) → TC Try.prog f args o (o.length + 1) res o1 n1 := by
  intro f args o res o1 n1 h
  unfold kt2_call at h
  split at h
  · rename_i e; subst e
    have hh := orO_elim h
    clear h
    rcases hh with h | h
    rotate_left
    · exact kT1.callB _ _ _ _ _ _ h
    unfold kt2_0 at h
    split at h
    · rename_i x0 r0 fs; unfold kt2_0_0 at h
      have hb0 := Option.bind_eq_some_iff.1 h
      clear h
      obtain ⟨c, e0, h⟩ := hb0
      unfold kt2_0_1 at h
      have hb1 := Option.bind_eq_some_iff.1 h
      clear h
      obtain ⟨l, e1, h⟩ := hb1
      unfold kt2_0_2 at h
      cases h; rw [unCm_ok e0, unPrs_ok e1]; exact chg_tc l fs c
    · cases h
  · exact kT1.callB f args o res o1 n1 h
theorem kT2 : KnOk Try.prog kt2 := ⟨kT1.call, eqTysOk, kt2_ok⟩
def carF (l : List Pr) (m : List Ss) (c : Cm) : (Int × Int × ByteArray) × List Pr × List Ss :=
  if c.op = 0 then ((1, 0, ⟨#[]⟩), l, m)
  else if c.sq < ((getS c.cl m).getD ⟨0, 0, 0, ⟨#[]⟩⟩).sq then ((3, 0, ⟨#[]⟩), l, m)
  else if ((getS c.cl m).getD ⟨0, 0, 0, ⟨#[]⟩⟩).sq = c.sq then ((2, ((getS c.cl m).getD ⟨0, 0, 0, ⟨#[]⟩⟩).co, ((getS c.cl m).getD ⟨0, 0, 0, ⟨#[]⟩⟩).v), l, m)
  else ((0, (chgF l c).1.1, (chgF l c).1.2), (chgF l c).2, setS ⟨c.cl, c.sq, (chgF l c).1.1, (chgF l c).1.2⟩ m)
set_option maxHeartbeats 16000000 in
theorem car_tc (l : List Pr) (m : List Ss) (c : Cm) : TC Try.prog 106 [.c (.ptr 1 0), .agg c.cv] [(1, .cells [.mp 2, .mp 3]), (2, .mp none (l.map entP)), (3, .mp (some .i64) (m.map entS))] 4
    (.tup [int (carF l m c).1.1, int (carF l m c).1.2.1, str (carF l m c).1.2.2]) [(1, .cells [.mp 2, .mp 3]), (2, .mp none ((carF l m c).2.1.map entP)), (3, .mp (some .i64) ((carF l m c).2.2.map entS))] 4 := by
  refine tc_intro Try.func106 rfl 53 rfl (Nat.le_of_ble_eq_true rfl) (by decide) [4, 5, 6] rfl dom3 ?_
  intro w0 E0
  have kOk := kT2
  obtain ⟨a, q, o, x, y, z⟩ := c
  simp only [Cm.cv]
  have hg := getS_m a m
  have hs := setS_m a q (chgF l ⟨a, q, o, x, y, z⟩).1.1 (chgF l ⟨a, q, o, x, y, z⟩).1.2 m
  by_cases h0 : o = 0
  · subst h0
    have e : carF l m ⟨a, q, 0, x, y, z⟩ = ((1, 0, ⟨#[]⟩), l, m) := by simp [carF]
    rw [e]
    have hp := (show ((0 : Int) == 0) = true from rfl)
    refine wk1 ?_
    refine am_retB [(1, 1), (2, 2), (3, 3)] rfl ?_ ?_ rfl <;> first | refine go ?_ | rfl
  have b0 : (o == 0) = false := by simpa using h0
  cases hx : getS a m with
  | none =>
    have hj := hg.1 hx
    by_cases h1 : q < 0
    · have e : carF l m ⟨a, q, o, x, y, z⟩ = ((3, 0, ⟨#[]⟩), l, m) := by simp [carF, h0, hx, h1]
      rw [e]
      have hp := And.intro hj (And.intro b0 (show (0 > q) = True from eq_true h1))
      refine wk1 ?_
      refine am_retB [(1, 1), (2, 2), (3, 3)] rfl ?_ ?_ rfl <;> first | refine go ?_ | rfl
    by_cases h2 : 0 = q
    · subst h2
      have e : carF l m ⟨a, 0, o, x, y, z⟩ = ((2, 0, ⟨#[]⟩), l, m) := by simp [carF, h0, hx]
      rw [e]
      have hp := And.intro hj (And.intro b0 (show ((0 : Int) > 0) = False ∧ ((0 : Int) == 0) = true from ⟨eq_false (by omega), rfl⟩))
      refine wk1 ?_
      refine am_retB [(1, 1), (2, 2), (3, 3)] rfl ?_ ?_ rfl <;> first | refine go ?_ | rfl
    · have e : carF l m ⟨a, q, o, x, y, z⟩ = ((0, (chgF l ⟨a, q, o, x, y, z⟩).1.1, (chgF l ⟨a, q, o, x, y, z⟩).1.2), (chgF l ⟨a, q, o, x, y, z⟩).2, setS ⟨a, q, (chgF l ⟨a, q, o, x, y, z⟩).1.1, (chgF l ⟨a, q, o, x, y, z⟩).1.2⟩ m) := by simp [carF, h0, hx, h1, h2]
      rw [e]
      have hp := And.intro hj (And.intro b0 (And.intro hs (show (0 > q) = False ∧ ((0 : Int) == q) = false from ⟨eq_false h1, by simpa using h2⟩)))
      refine wk1 ?_
      refine am_retB [(1, 1), (2, 2), (3, 3)] rfl ?_ ?_ rfl <;> first | refine go ?_ | rfl
  | some s =>
    obtain ⟨j, hj⟩ := hg.2 s hx
    by_cases h1 : q < s.sq
    · have e : carF l m ⟨a, q, o, x, y, z⟩ = ((3, 0, ⟨#[]⟩), l, m) := by simp [carF, h0, hx, h1]
      rw [e]
      have hp := And.intro hj (And.intro b0 (show (s.sq > q) = True from eq_true h1))
      refine wk1 ?_
      refine am_retB [(1, 1), (2, 2), (3, 3)] rfl ?_ ?_ rfl <;> first | refine go ?_ | rfl
    by_cases h2 : s.sq = q
    · have e : carF l m ⟨a, q, o, x, y, z⟩ = ((2, s.co, s.v), l, m) := by simp [carF, h0, hx, h1, h2]
      rw [e]
      have hp := And.intro hj (And.intro b0 (show (s.sq > q) = False ∧ (s.sq == q) = true from ⟨eq_false h1, by simpa using h2⟩))
      refine wk1 ?_
      refine am_retB [(1, 1), (2, 2), (3, 3)] rfl ?_ ?_ rfl <;> first | refine go ?_ | rfl
    · have e : carF l m ⟨a, q, o, x, y, z⟩ = ((0, (chgF l ⟨a, q, o, x, y, z⟩).1.1, (chgF l ⟨a, q, o, x, y, z⟩).1.2), (chgF l ⟨a, q, o, x, y, z⟩).2, setS ⟨a, q, (chgF l ⟨a, q, o, x, y, z⟩).1.1, (chgF l ⟨a, q, o, x, y, z⟩).1.2⟩ m) := by simp [carF, h0, hx, h1, h2]
      rw [e]
      have hp := And.intro hj (And.intro b0 (And.intro hs (show (s.sq > q) = False ∧ (s.sq == q) = false from ⟨eq_false h1, by simpa using h2⟩)))
      refine wk1 ?_
      refine am_retB [(1, 1), (2, 2), (3, 3)] rfl ?_ ?_ rfl <;> first | refine go ?_ | rfl
def kt3_0_3 (c : Cm) (l : List Pr) (m : List Ss) : CB := some (.tup [int (carF l m c).1.1, int (carF l m c).1.2.1, str (carF l m c).1.2.2], [(1, .cells [.mp 2, .mp 3]), (2, .mp none ((carF l m c).2.1.map entP)), (3, .mp (some .i64) ((carF l m c).2.2.map entS))], 4)
def kt3_0_2 (r1 : List (Value × Value)) (c : Cm) (l : List Pr) : CB := (unSss r1).bind (kt3_0_3 c l)
def kt3_0_1 (r0 : List (Value × Value)) (r1 : List (Value × Value)) (c : Cm) : CB := (unPrs r0).bind (kt3_0_2 r1 c)
def kt3_0_0 (x0 : List CV) (r0 : List (Value × Value)) (r1 : List (Value × Value)) : CB := (unCm x0).bind (kt3_0_1 r0 r1)
def kt3_0 : List TV → List (Nat × AObj) → CB
  | [.c (.ptr 1 0), .agg x0], [(1, .cells [.mp 2, .mp 3]), (2, .mp none r0), (3, .mp (some .i64) r1)] => kt3_0_0 x0 r0 r1
  | _, _ => none
def kt3_call (f : FuncId) (args : List TV) (o : List (Nat × AObj)) : CB := if f = 106 then orO (kt3_0 args o) (kt2.callB f args o) else kt2.callB f args o
def kt3 : Kn := { call := kt2.call, eqs := eqTys, callB := kt3_call }
attribute [go_sem] kt3_0_0 kt3_0_1 kt3_0_2 kt3_0_3 kt3_0 kt3_call kt3
theorem kt3_ok : ∀ f args o res o1 n1, kt3_call f args o = some (res, o1, n1) → TC Try.prog f args o (o.length + 1) res o1 n1 := by
  intro f args o res o1 n1 h
  unfold kt3_call at h
  split at h
  · rename_i e; subst e
    have hh := orO_elim h
    clear h
    rcases hh with h | h
    rotate_left
    · exact kT2.callB _ _ _ _ _ _ h
    unfold kt3_0 at h
    split at h
    · rename_i x0 r0 r1; unfold kt3_0_0 at h
      have hb0 := Option.bind_eq_some_iff.1 h
      clear h
      obtain ⟨c, e0, h⟩ := hb0
      unfold kt3_0_1 at h
      have hb1 := Option.bind_eq_some_iff.1 h
      clear h
      obtain ⟨l, e1, h⟩ := hb1
      unfold kt3_0_2 at h
      have hb2 := Option.bind_eq_some_iff.1 h
      clear h
      obtain ⟨m, e2, h⟩ := hb2
      unfold kt3_0_3 at h
      cases h; rw [unCm_ok e0, unPrs_ok e1, unSss_ok e2]; exact car_tc l m c
    · cases h
  · exact kT2.callB f args o res o1 n1 h
theorem kT3 : KnOk Try.prog kt3 := ⟨kT2.call, eqTysOk, kt3_ok⟩
end Go.Proofs.YthnpbfljoghbmaaA
