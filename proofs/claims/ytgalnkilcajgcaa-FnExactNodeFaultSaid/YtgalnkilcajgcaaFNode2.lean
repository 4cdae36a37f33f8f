/- Nodes whole: what came in, and the laws' own functions for it. -/
import Derived.Test.YtgalnkilcajgcaaFStable3
namespace Go.Proofs.YtgalnkilcajgcaaA
open Go.Proofs
set_option autoImplicit false
set_option linter.unusedVariables false
set_option linter.unusedSimpArgs false
set_option maxRecDepth 4000
def szIs (l : List Int) (left : Int) : Int := if IntKind.i64.wrap (left - l.length) < 0 then -1 else IntKind.i64.wrap (left - l.length)
theorem szIs_tc (l : List Int) (left : Int) : TC Try.prog 103 [ro 1 (l.map iTr), int left] [] 1 (int (szIs l left)) [] 1 := by
  refine tc_intro Try.func103 rfl 12 rfl (Nat.le_of_ble_eq_true rfl) (by decide) [4] rfl (by intro id x h; cases h) ?_
  intro w0 E0
  have kOk := k16
  have hp : (l.map iTr).length = l.length := by simp
  repeat' first
    | (refine guardP_mk (fun h => ?_) (fun h => ?_) <;> (refine go1 ?_; try simp only [decide_eq_true_eq, decide_eq_false_iff_not, Bool.not_true, Bool.not_false, Bool.not_eq_true', Bool.not_eq_false', beq_iff_eq, bne_iff_ne, beq_eq_false_iff_ne, bne_eq_false_iff_eq, ne_eq, Bool.false_eq_true, reduceCtorEq] at h))
    | (refine hK _ ?_; clear hK K Q1)
    | (refine hK _ _ rfl ?_; clear hK K; try refine go1 ?_)
    | (refine am_retP rfl ?_ rfl; first | refine go ?_ | rfl)
    | (refine am_retC [] rfl ?_ rfl rfl; first | refine go ?_ | rfl)
    | (refine wkq ?_)
    | (refine am_rs tabOk kOk rfl fun K Q1 hK => ?_; refine go1 ?_)
    | (refine am_ds mixed tabOk kOk rfl rfl fun K hK => ?_; refine go1 ?_)
    | (refine am_dreg mixed tabOk kOk rfl rfl fun K hK => ?_; refine go1 ?_)
  all_goals (simp only [szIs]; simp (disch := omega) only [if_pos, if_neg]; try rfl)
def kn30_0_1 (n : Int) (l : List Int) : Option TV := some (int (szIs l n))
def kn30_0_0 (n : Int) (r0 : List (List Tree)) : Option TV := (unInts r0).bind (kn30_0_1 n)
def kn30_0 : List TV → Option TV
  | [.c (.t (.sl 1 r0)), .c (.t (.v (.int .i64 n)))] => kn30_0_0 n r0
  | _ => none
def kn30_1_2 (l : List Int) (r : List Int) : Option TV := if l.length ≤ 1048576 then some (bool (decide (l = r))) else none
def kn30_1_1 (r1 : List (List Tree)) (l : List Int) : Option TV := (unInts r1).bind (kn30_1_2 l)
def kn30_1_0 (r0 : List (List Tree)) (r1 : List (List Tree)) : Option TV := (unInts r0).bind (kn30_1_1 r1)
def kn30_1 : List TV → Option TV
  | [.c (.t (.sl 1 r0)), .c (.t (.sl 1 r1))] => kn30_1_0 r0 r1
  | _ => none
def kn30_call (f : FuncId) (args : List TV) : Option TV := if f = 103 then orO (kn30_0 args) (kn17.call f args) else if f = 118 then orO (kn30_1 args) (kn17.call f args) else kn17.call f args
def kn30 : Kn := { call := kn30_call, eqs := eqTys, callB := kn17.callB }
attribute [go_sem] kn30_0_0 kn30_0_1 kn30_0 kn30_1_0 kn30_1_1 kn30_1_2 kn30_1 kn30_call kn30
theorem kn30_ok : ∀ f args res, kn30_call f args = some res → TC Try.prog f args [] 1 res [] 1 := by
  intro f args res h
  unfold kn30_call at h
  split at h
  · rename_i e; subst e
    have hh := orO_elim h
    clear h
    rcases hh with h | h
    rotate_left
    · exact k17.call _ _ _ h
    unfold kn30_0 at h
    split at h
    · rename_i r0 n; unfold kn30_0_0 at h
      obtain ⟨l, e0, h⟩ := Option.bind_eq_some_iff.1 h
      unfold kn30_0_1 at h
      cases h; rw [unInts_ok e0]; exact szIs_tc l n
    · cases h
  split at h
  · rename_i e; subst e
    have hh := orO_elim h
    clear h
    rcases hh with h | h
    rotate_left
    · exact k17.call _ _ _ h
    unfold kn30_1 at h
    split at h
    · rename_i r0 r1; unfold kn30_1_0 at h
      obtain ⟨l, e0, h⟩ := Option.bind_eq_some_iff.1 h
      unfold kn30_1_1 at h
      obtain ⟨r, e1, h⟩ := Option.bind_eq_some_iff.1 h
      unfold kn30_1_2 at h
      split at h
      · rename_i hc; cases h; rw [unInts_ok e0, unInts_ok e1]; exact eqInts_tc l r hc
      · cases h
    · cases h
  · exact k17.call f args res h
theorem k30 : KnOk Try.prog kn30 := ⟨kn30_ok, eqTysOk, k17.callB⟩
def kn31_0_1 (l : List Int) : CB := if l.length ≤ 1048576 then some (.c (.own 1 0 l.length), [(1, .arr 3 1 (l.map iTr))], 2) else none
def kn31_0_0 (r0 : List (List Tree)) : CB := (unInts r0).bind (kn31_0_1)
def kn31_0 : List TV → List (Nat × AObj) → CB
  | [.c (.t (.sl 1 r0))], [] => kn31_0_0 r0
  | _, _ => none
def kn31_call (f : FuncId) (args : List TV) (o : List (Nat × AObj)) : CB := if f = 111 then orO (kn31_0 args o) (kn30.callB f args o) else kn30.callB f args o
def kn31 : Kn := { call := kn30.call, eqs := eqTys, callB := kn31_call }
attribute [go_sem] kn31_0_0 kn31_0_1 kn31_0 kn31_call kn31
theorem kn31_ok : ∀ f args o res o1 n1, kn31_call f args o = some (res, o1, n1) → TC Try.prog f args o (o.length + 1) res o1 n1 := by
  intro f args o res o1 n1 h
  unfold kn31_call at h
  split at h
  · rename_i e; subst e
    have hh := orO_elim h
    clear h
    rcases hh with h | h
    rotate_left
    · exact k30.callB _ _ _ _ _ _ h
    unfold kn31_0 at h
    split at h
    · rename_i r0; unfold kn31_0_0 at h
      have hb0 := Option.bind_eq_some_iff.1 h
      clear h
      obtain ⟨l, e0, h⟩ := hb0
      unfold kn31_0_1 at h
      split at h
      · rename_i hc; cases h; rw [unInts_ok e0]; exact toInts_tc l hc
      · cases h
    · cases h
  · exact k30.callB f args o res o1 n1 h
theorem k31 : KnOk Try.prog kn31 := ⟨k30.call, eqTysOk, kn31_ok⟩
structure Nd where
  (id sz el be te vo ro le co no de he : Int)
  log : List Ent
  (gr ne ma se st : List Int)
deriving instance DecidableEq for Nd
def Nd.cv (c : Nd) : List CV := [ci c.id, ci c.sz, ci c.el, ci c.be, ci c.te, ci c.vo, ci c.ro, ci c.le, ci c.co, ci c.no, ci c.de, ci c.he, .t (.sl 7 (c.log.map Ent.tr)), .t (.sl 1 (c.gr.map iTr)), .t (.sl 1 (c.ne.map iTr)), .t (.sl 1 (c.ma.map iTr)), .t (.sl 1 (c.se.map iTr)), .t (.sl 1 (c.st.map iTr))]
def Nd.mk5 (id sz el be te vo ro le co no de he : Int) (gr ne ma se st : List Int) (log : List Ent) : Nd := ⟨id, sz, el, be, te, vo, ro, le, co, no, de, he, log, gr, ne, ma, se, st⟩
def unNd5 (id sz el be te vo ro le co no de he : Int) (x0 : List (List Tree)) : Option (List Int) → Option (List Int) → Option (List Int) → Option (List Int) → Option (List Int) → Option Nd
  | some gr, some ne, some ma, some se, some st => (unEnts x0).map (Nd.mk5 id sz el be te vo ro le co no de he gr ne ma se st)
  | _, _, _, _, _ => none
def unNd : List CV → Option Nd
  | [.t (.v (.int .i64 id)), .t (.v (.int .i64 sz)), .t (.v (.int .i64 el)), .t (.v (.int .i64 be)), .t (.v (.int .i64 te)), .t (.v (.int .i64 vo)), .t (.v (.int .i64 ro)), .t (.v (.int .i64 le)), .t (.v (.int .i64 co)), .t (.v (.int .i64 no)), .t (.v (.int .i64 de)), .t (.v (.int .i64 he)), .t (.sl 7 x0), .t (.sl 1 x1), .t (.sl 1 x2), .t (.sl 1 x3), .t (.sl 1 x4), .t (.sl 1 x5)] => unNd5 id sz el be te vo ro le co no de he x0 (unInts x1) (unInts x2) (unInts x3) (unInts x4) (unInts x5)
  | _ => none
theorem unNd_ok {xs : List CV} {c : Nd} (h : unNd xs = some c) : xs = c.cv := by
  unfold unNd at h
  split at h
  · unfold unNd5 at h
    split at h
    · rename_i h1 h2 h3 h4 h5
      obtain ⟨l, h6, h7⟩ := Option.map_eq_some_iff.1 h
      subst h7
      rw [unEnts_ok h6, unInts_ok h1, unInts_ok h2, unInts_ok h3, unInts_ok h4, unInts_ok h5]
      rfl
    · cases h
  · cases h
attribute [go_sem] unNd unNd5 Nd.mk5 Nd.cv
def szNdF (c : Nd) (n : Int) : Int :=
  if szEsF c.log n < 0 then -1 else if szIs c.gr (szEsF c.log n) < 0 then -1 else if szIs c.ne (szIs c.gr (szEsF c.log n)) < 0 then -1 else if szIs c.ma (szIs c.ne (szIs c.gr (szEsF c.log n))) < 0 then -1
  else if szIs c.se (szIs c.ma (szIs c.ne (szIs c.gr (szEsF c.log n)))) < 0 then -1 else if szIs c.st (szIs c.se (szIs c.ma (szIs c.ne (szIs c.gr (szEsF c.log n))))) < 0 then -1 else szIs c.st (szIs c.se (szIs c.ma (szIs c.ne (szIs c.gr (szEsF c.log n)))))
set_option maxHeartbeats 16000000 in
theorem szNd_tc (c : Nd) (n : Int) (hl : c.log.length ≤ maxLen) : TC Try.prog 54 [.agg c.cv, int n] [] 1 (int (szNdF c n)) [] 1 := by
  refine tc_intro Try.func54 rfl 42 rfl (Nat.le_of_ble_eq_true rfl) (by decide) [4] rfl (by intro id x h; cases h) ?_
  intro w0 E0
  have kOk := k31
  obtain ⟨id, sz, el, be, te, vo, ro, le, co, no, de, he, log, gr, ne, ma, se, st⟩ := c
  have hp : (log.length ≤ maxLen) = True := eq_true hl
  simp only [Nd.cv]
  repeat' first
    | (refine guardP_mk (fun h => ?_) (fun h => ?_) <;> (refine go1 ?_; try simp only [decide_eq_true_eq, decide_eq_false_iff_not, Bool.not_true, Bool.not_false, Bool.not_eq_true', Bool.not_eq_false', beq_iff_eq, bne_iff_ne, beq_eq_false_iff_ne, bne_eq_false_iff_eq, ne_eq, Bool.false_eq_true, reduceCtorEq] at h))
    | (refine hK _ ?_; clear hK K Q1)
    | (refine hK _ _ rfl ?_; clear hK K; try refine go1 ?_)
    | (refine am_retP rfl ?_ rfl; first | refine go ?_ | rfl)
    | (refine am_retC [] rfl ?_ rfl rfl; first | refine go ?_ | rfl)
    | (refine wkq ?_)
    | (refine am_rs tabOk kOk rfl fun K Q1 hK => ?_; refine go1 ?_)
    | (refine am_ds mixed tabOk kOk rfl rfl fun K hK => ?_; refine go1 ?_)
    | (refine am_dreg mixed tabOk kOk rfl rfl fun K hK => ?_; refine go1 ?_)
  all_goals (simp only [szNdF]; simp (disch := omega) only [if_pos, if_neg]; try rfl)
set_option maxHeartbeats 16000000 in
theorem toNd_tc (c : Nd) (h0 : c.log.length ≤ 1048576) (h1 : c.gr.length ≤ 1048576) (h2 : c.ne.length ≤ 1048576) (h3 : c.ma.length ≤ 1048576) (h4 : c.se.length ≤ 1048576) (h5 : c.st.length ≤ 1048576) : TC Try.prog 56 [.agg c.cv] [] 1 (.agg [ci c.id, ci c.sz, ci c.el, ci c.be, ci c.te, ci c.vo, ci c.ro, ci c.le, ci c.co, ci c.no, ci c.de, ci c.he, .own 1 0 c.log.length, .own 2 0 c.gr.length, .own 3 0 c.ne.length, .own 4 0 c.ma.length, .own 5 0 c.se.length, .own 6 0 c.st.length]) [(1, .arr 198 7 (c.log.map Ent.tr)), (2, .arr 3 1 (c.gr.map iTr)), (3, .arr 3 1 (c.ne.map iTr)), (4, .arr 3 1 (c.ma.map iTr)), (5, .arr 3 1 (c.se.map iTr)), (6, .arr 3 1 (c.st.map iTr))] 7 := by
  refine tc_cell tabOk Try.func56 rfl 65 rfl (Nat.le_of_ble_eq_true rfl) (by decide) [(2, some 88)] rfl (by intro id x h; cases h) ?_
  intro w0 E0
  have kOk := k31
  obtain ⟨id, sz, el, be, te, vo, ro, le, co, no, de, he, log, gr, ne, ma, se, st⟩ := c
  have hp := (show (log.length ≤ 1048576) = True ∧ (gr.length ≤ 1048576) = True ∧ (ne.length ≤ 1048576) = True ∧ (ma.length ≤ 1048576) = True ∧ (se.length ≤ 1048576) = True ∧ (st.length ≤ 1048576) = True from ⟨eq_true h0, eq_true h1, eq_true h2, eq_true h3, eq_true h4, eq_true h5⟩)
  simp only [Nd.cv]
  refine wk1 ?_
  refine am_retC [(4, 1), (5, 2), (6, 3), (7, 4), (8, 5), (9, 6)] rfl ?_ rfl rfl
  first | refine go ?_ | rfl
set_option maxHeartbeats 16000000 in
theorem eqNd_tc (c d : Nd) (h0 : c.log.length ≤ 1048576) (h1 : c.gr.length ≤ 1048576) (h2 : c.ne.length ≤ 1048576) (h3 : c.ma.length ≤ 1048576) (h4 : c.se.length ≤ 1048576) (h5 : c.st.length ≤ 1048576) : TC Try.prog 49 [.agg c.cv, .agg d.cv] [] 1 (bool (decide (c = d))) [] 1 := by
  refine tc_intro Try.func49 rfl 101 rfl (Nat.le_of_ble_eq_true rfl) (by decide) [4] rfl (by intro id x h; cases h) ?_
  intro w0 E0
  have kOk := k31
  obtain ⟨id, sz, el, be, te, vo, ro, le, co, no, de, he, log, gr, ne, ma, se, st⟩ := c
  obtain ⟨id', sz', el', be', te', vo', ro', le', co', no', de', he', log', gr', ne', ma', se', st'⟩ := d
  have hp := (show (log.length ≤ 1048576) = True ∧ (gr.length ≤ 1048576) = True ∧ (ne.length ≤ 1048576) = True ∧ (ma.length ≤ 1048576) = True ∧ (se.length ≤ 1048576) = True ∧ (st.length ≤ 1048576) = True from ⟨eq_true h0, eq_true h1, eq_true h2, eq_true h3, eq_true h4, eq_true h5⟩)
  simp only [Nd.cv]
  repeat' first
    | (refine guardP_mk (fun h => ?_) (fun h => ?_) <;> (refine go1 ?_; try simp only [decide_eq_true_eq, decide_eq_false_iff_not, Bool.not_true, Bool.not_false, Bool.not_eq_true', Bool.not_eq_false', beq_iff_eq, bne_iff_ne, beq_eq_false_iff_ne, bne_eq_false_iff_eq, ne_eq, Bool.false_eq_true, reduceCtorEq] at h))
    | (refine hK _ ?_; clear hK K Q1)
    | (refine hK _ _ rfl ?_; clear hK K; try refine go1 ?_)
    | (refine am_retP rfl ?_ rfl; first | refine go ?_ | rfl)
    | (refine am_retC [] rfl ?_ rfl rfl; first | refine go ?_ | rfl)
    | (refine wkq ?_)
    | (refine am_rs tabOk kOk rfl fun K Q1 hK => ?_; refine go1 ?_)
    | (refine am_ds mixed tabOk kOk rfl rfl fun K hK => ?_; refine go1 ?_)
    | (refine am_dreg mixed tabOk kOk rfl rfl fun K hK => ?_; refine go1 ?_)
  all_goals (clear hp; simp_all)
end Go.Proofs.YtgalnkilcajgcaaA
