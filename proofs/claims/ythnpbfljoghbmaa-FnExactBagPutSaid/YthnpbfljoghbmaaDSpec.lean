/- Bags: the reference's way. -/
import Derived.Test.YthnpbfljoghbmaaDBag
namespace Go.Proofs.YthnpbfljoghbmaaA
open Go.Proofs
set_option autoImplicit false
set_option linter.unusedVariables false
set_option linter.unusedSimpArgs false
set_option maxRecDepth 4000
theorem adrS_tc (a : Int) : TC Try.prog 64 [int a] [] 1 (bool (adB a)) [] 1 := by
  refine tc_intro Try.func64 rfl 9 rfl (Nat.le_of_ble_eq_true rfl) (by decide) [2] rfl (by intro id x h; cases h) ?_
  intro w0 E0
  have kOk := kB1
  repeat' (fail_if_success (with_reducible apply amR_id)); first
    | (refine guardP_mk (fun h => ?_) (fun h => ?_) <;> (refine go ?_; try simp only [decide_eq_true_eq, decide_eq_false_iff_not, Bool.not_true, Bool.not_false, Bool.not_eq_true', Bool.not_eq_false', beq_iff_eq, bne_iff_ne, beq_eq_false_iff_ne, bne_eq_false_iff_eq, ne_eq, Bool.false_eq_true, reduceCtorEq] at h))
    | (refine hK _ ?_; clear hK K Q1)
    | (refine ⟨by first | omega | (simp only [List.length_map, List.length_append, List.length_cons, List.length_nil, List.length_replicate, List.length_drop, List.length_take]; omega), by unfold maxLen; first | omega | (simp only [List.length_map, List.length_append, List.length_cons, List.length_nil, List.length_replicate, List.length_drop, List.length_take]; omega), ?_⟩)
    | (refine hK _ _ rfl ?_; clear hK K; try refine go ?_)
    | (refine am_retP rfl ?_ rfl; first | refine go ?_ | rfl)
    | (refine am_retC [] rfl ?_ rfl rfl; first | refine go ?_ | rfl)
    | (refine wkp ?_)
    | (refine am_rs tabOk kOk rfl fun K Q1 hK => ?_; refine go ?_)
    | (refine am_reg tabOk kOk rfl fun K Q1 hK => ?_; refine go ?_)
    | (refine am_ds mixed tabOk kOk rfl rfl fun K hK => ?_; refine go ?_)
    | (refine am_dreg mixed tabOk kOk rfl rfl fun K hK => ?_; refine go ?_)
  all_goals (simp only [TV.c.injEq, CV.t.injEq, Tree.v.injEq, Value.bool.injEq, adB] at *; grind)
def ke1_0_0 (a : Int) : Option TV := some (bool (adB a))
def ke1_0 : List TV → Option TV
  | [.c (.t (.v (.int .i64 a)))] => ke1_0_0 a
  | _ => none
def ke1_call (f : FuncId) (args : List TV) : Option TV := if f = 64 then orO (ke1_0 args) (kd3.call f args) else kd3.call f args
def ke1 : Kn := { call := ke1_call, eqs := eqTys, callB := kd3.callB }
attribute [go_sem] ke1_0_0 ke1_0 ke1_call ke1
theorem ke1_ok : ∀ f args res, ke1_call f args = some res → TC Try.prog f args [] 1 res [] 1 := by
  intro f args res h
  unfold ke1_call at h
  split at h
  · rename_i e; subst e
    have hh := orO_elim h
    clear h
    rcases hh with h | h
    rotate_left
    · exact kD3.call _ _ _ h
    unfold ke1_0 at h
    split at h
    · rename_i a; unfold ke1_0_0 at h
      cases h; exact adrS_tc a
    · cases h
  · exact kD3.call f args res h
theorem kE1 : KnOk Try.prog ke1 := ⟨ke1_ok, eqTysOk, kD3.callB⟩
set_option maxHeartbeats 64000000 in
theorem okS_tc (b : Bg) (h : bgOk b = true) : TC Try.prog 62 [.agg b.cv] [] 1 (bool (bgF b.nx b.ps b.ws)) [] 1 := by
  obtain ⟨n, ps, ws⟩ := b
  simp only [bgOk, Bool.and_eq_true, decide_eq_true_eq] at h
  obtain ⟨hl, h2, h3⟩ := of_decide_eq_true h.1
  have hw := h.2
  clear h h2 h3
  simp only [Bg.cv]
  refine tc_intro Try.func62 rfl 110 rfl (Nat.le_of_ble_eq_true rfl) (by decide) [2] rfl (by intro id x h; cases h) ?_
  intro w0 E0
  have kOk := kE1
  by_cases c1 : inB n 1 1099511627776 = true
  rotate_left
  · have c1' : inB n 1 1099511627776 = false := by simpa using c1
    have e : bgF n ps ws = false := by simp [bgF, c1']
    rw [e]
    have hp := c1'
    refine wk1 ?_
    refine am_retP rfl ?_ rfl
    first | rfl | (refine go ?_; rfl)
  by_cases c2 : ps.length ≤ 4096
  rotate_left
  · have e : bgF n ps ws = false := by simp [bgF, c2]
    rw [e]
    have hp := (show inB n 1 1099511627776 = true ∧ (ps.map Pk.tr).length = ps.length ∧ ((ps.length : Int) > 4096) = True from ⟨c1, by simp, eq_true (by omega)⟩)
    refine wk1 ?_
    refine am_retP rfl ?_ rfl
    first | rfl | (refine go ?_; rfl)
  have eb : bgF n ps ws = (pkF ps 0 n && waF ws 0) := by simp [bgF, c1, c2]
  rw [eb]
  have hp := (show inB n 1 1099511627776 = true ∧ (ps.map Pk.tr).length = ps.length ∧ ((ps.length : Int) > 4096) = False from ⟨c1, by simp, eq_false (by omega)⟩)
  refine wk1 ?_
  refine am_tidy [(1, 1)] [1, 3] 2 rfl ?_
  refine go1 ?_
  clear hp
  refine am_loop (ps.length + 1) ?_
  suffices key : ∀ (d k : Nat) (last : Int), k + d = ps.length → 0 ≤ last → (0 < k → ∃ q, ps[k - 1]? = some q ∧ q.id = last) → (k = 0 → last = 0) → pkF (ps.drop k) last n = pkF ps 0 n → amR Try.prog _ _ _ (d + 1) ⟨[(1, .c (.ptr 1 0)), (3, int (k : Nat))], [(1, .cells [ci n, .t (.sl 4 (ps.map Pk.tr)), .t (.sl 1 (ws.map iTr))])], 2⟩ from key ps.length 0 0 (by simp) (Int.le_refl _) (fun h => absurd h (by omega)) (fun _ => rfl) rfl
  intro d
  induction d with
  | zero =>
    intro k last hk h0 hq hz hf
    rw [List.drop_eq_nil_of_le (by omega), pkF] at hf
    rw [← hf, Bool.true_and]
    have hp := (show ((k : Int) < (ps.length : Int)) = False ∧ (ws.map iTr).length = ws.length ∧ (ps.map Pk.tr).length = ps.length from ⟨eq_false (by omega), by simp, by simp⟩)
    refine amR_succ ?_
    refine wk1 ?_
    refine am_tidy [(1, 1)] [1, 5] 2 rfl ?_
    refine go1 ?_
    clear hp
    refine am_loop (ws.length + 1) ?_
    suffices key2 : ∀ (d j : Nat) (la : Int), j + d = ws.length → 0 ≤ la → (0 < j → ws[j - 1]? = some la) → (j = 0 → la = 0) → waF (ws.drop j) la = waF ws 0 → amR Try.prog _ _ _ (d + 1) ⟨[(1, .c (.ptr 1 0)), (5, int (j : Nat))], [(1, .cells [ci n, .t (.sl 4 (ps.map Pk.tr)), .t (.sl 1 (ws.map iTr))])], 2⟩ from key2 ws.length 0 0 (by simp) (Int.le_refl _) (fun h => absurd h (by omega)) (fun _ => rfl) rfl
    intro d
    induction d with
    | zero =>
      intro j la hj h0 hq hz hg
      rw [List.drop_eq_nil_of_le (by omega), waF] at hg
      rw [← hg]
      have hp := (show ((j : Int) < (ws.length : Int)) = False ∧ (ws.map iTr).length = ws.length from ⟨eq_false (by omega), by simp⟩)
      refine amR_succ ?_
      refine wk1 ?_
      refine am_retP rfl ?_ rfl
      first | rfl | (refine go ?_; rfl)
    | succ d ih =>
      intro j la hj h0 hq hz hg
      obtain ⟨w, hw'⟩ : ∃ e, ws[j]? = some e := ⟨ws[j]'(by omega), List.getElem?_eq_getElem (by omega)⟩
      rw [waF_drop hw'] at hg
      have base := (show ((j : Int) < (ws.length : Int)) = True ∧ (j < ws.length) = True ∧ (ws.map iTr).length = ws.length ∧ (ws.map iTr)[j]? = some [.v (.int .i64 w)] ∧ IntKind.i64.wrap ((j : Int) + 1) = ((j + 1 : Nat) : Int) from
        ⟨eq_true (by omega), eq_true (by omega), by simp, by rw [List.getElem?_map, hw']; rfl, by rw [wrapN (by omega) (by omega)]; rfl⟩)
      by_cases a1 : inB w 1 7 = true
      rotate_left
      · have a1' : inB w 1 7 = false := by simpa using a1
        have e : waF ws 0 = false := by
          rw [← hg]
          simp only [inB, decide_eq_false_iff_not] at a1'
          by_cases x1 : la < w
          · simp [show ¬ w ≤ 7 by omega]
          · simp [x1]
        rw [e]
        have hp := And.intro base a1'
        refine amR_succ ?_
        refine wk1 ?_
        refine am_retP rfl ?_ rfl
        first | rfl | (refine go ?_; rfl)
      have a2 := a1
      simp only [inB, decide_eq_true_eq] at a2
      rcases Nat.eq_zero_or_pos j with rfl | hj0
      · have hla := hz rfl
        have ihk := ih 1 w (by omega) (by omega) (fun _ => hw') (fun h => absurd h (by omega)) (by rw [← hg]; simp [hla, show (0 : Int) < w by omega, a2.2])
        clear ih
        have hp := And.intro base (show inB w 1 7 = true ∧ (((0 : Nat) : Int) > 0) = False from ⟨a1, eq_false (by omega)⟩)
        refine amR_succ ?_
        refine wk1 ?_
        refine amR_tidy [(1, 1)] [1, 5] 2 rfl ?_
        refine go1 ?_
        exact ihk
      · have hqq := hq hj0
        have base2 := And.intro base (show inB w 1 7 = true ∧ ((j : Int) > 0) = True ∧ IntKind.i64.wrap ((j : Int) - 1) = ((j - 1 : Nat) : Int) ∧ (j - 1 < ws.length) = True ∧ (ws.map iTr)[j - 1]? = some [.v (.int .i64 la)] from
          ⟨a1, eq_true (by omega), by rw [wrapN (by omega) (by omega)]; omega, eq_true (by omega), by rw [List.getElem?_map, hqq]; rfl⟩)
        by_cases a3 : la < w
        · have ihk := ih (j + 1) w (by omega) (by omega) (fun _ => by simpa using hw') (fun h => absurd h (by omega)) (by rw [← hg]; simp [a3, a2.2])
          clear ih
          have hp := And.intro base2 (show (w ≤ la) = False from eq_false (by omega))
          refine amR_succ ?_
          refine wk1 ?_
          refine amR_tidy [(1, 1)] [1, 5] 2 rfl ?_
          refine go1 ?_
          exact ihk
        · have e : waF ws 0 = false := by rw [← hg]; simp [a3]
          rw [e]
          have hp := And.intro base2 (show (w ≤ la) = True from eq_true (by omega))
          refine amR_succ ?_
          refine wk1 ?_
          refine am_retP rfl ?_ rfl
          first | rfl | (refine go ?_; rfl)
  | succ d ih =>
    intro k last hk h0 hq hz hf
    obtain ⟨p, hpk⟩ : ∃ e, ps[k]? = some e := ⟨ps[k]'(by omega), List.getElem?_eq_getElem (by omega)⟩
    rw [pkF_drop hpk] at hf
    have base := (show ((k : Int) < (ps.length : Int)) = True ∧ (k < ps.length) = True ∧ (ps.map Pk.tr).length = ps.length ∧ (ps.map Pk.tr)[k]? = some p.tr ∧ IntKind.i64.wrap ((k : Int) + 1) = ((k + 1 : Nat) : Int) from
      ⟨eq_true (by omega), eq_true (by omega), by simp, by rw [List.getElem?_map, hpk]; rfl, by rw [wrapN (by omega) (by omega)]; rfl⟩)
    obtain ⟨id, fr, to, bb⟩ := p
    simp only [Pk.tr] at base
    simp only at hf
    by_cases b1 : id < 1
    · have e : pkF ps 0 n = false := by rw [← hf]; simp [show ¬ last < id by omega]
      rw [e, Bool.false_and]
      have hp := And.intro base (show (id < 1) = True from eq_true b1)
      refine amR_succ ?_
      refine wk1 ?_
      refine am_retP rfl ?_ rfl
      first | rfl | (refine go ?_; rfl)
    by_cases b2 : id ≥ n
    · have e : pkF ps 0 n = false := by rw [← hf]; simp [show ¬ id < n by omega]
      rw [e, Bool.false_and]
      have hp := And.intro base (show (id < 1) = False ∧ (id ≥ n) = True from ⟨eq_false b1, eq_true b2⟩)
      refine amR_succ ?_
      refine wk1 ?_
      refine am_retP rfl ?_ rfl
      first | rfl | (refine go ?_; rfl)
    have base1 := And.intro base (show (id < 1) = False ∧ (id ≥ n) = False from ⟨eq_false b1, eq_false b2⟩)
    rcases Nat.eq_zero_or_pos k with rfl | hk0
    · have hla := hz rfl
      have base2 := And.intro base1 (show (((0 : Nat) : Int) > 0) = False from eq_false (by omega))
      by_cases b4 : adB fr = true
      rotate_left
      · have b4' : adB fr = false := by simpa using b4
        have e : pkF ps 0 n = false := by rw [← hf]; simp [rtB, b4']
        rw [e, Bool.false_and]
        have hp := And.intro base2 (show adB fr = false from b4')
        refine amR_succ ?_
        refine wk1 ?_
        refine am_retP rfl ?_ rfl
        first | rfl | (refine go ?_; rfl)
      by_cases b5 : adB to = true
      rotate_left
      · have b5' : adB to = false := by simpa using b5
        have e : pkF ps 0 n = false := by rw [← hf]; simp [rtB, b5']
        rw [e, Bool.false_and]
        have hp := And.intro base2 (show adB fr = true ∧ adB to = false from ⟨b4, b5'⟩)
        refine amR_succ ?_
        refine wk1 ?_
        refine am_retP rfl ?_ rfl
        first | rfl | (refine go ?_; rfl)
      by_cases b6 : fr = to
      · have e : pkF ps 0 n = false := by rw [← hf]; simp [rtB, b6]
        rw [e, Bool.false_and]
        have hp := And.intro base2 (show adB fr = true ∧ adB to = true ∧ (fr == to) = true ∧ (fr = to) = True from ⟨b4, b5, by simp [b6], eq_true b6⟩)
        refine amR_succ ?_
        refine wk1 ?_
        refine am_retP rfl ?_ rfl
        first | rfl | (refine go ?_; rfl)
      by_cases b7 : inB (bb.length : Nat) 1 16384 = true
      rotate_left
      · have b7' : inB (bb.length : Nat) 1 16384 = false := by simpa using b7
        have e : pkF ps 0 n = false := by rw [← hf]; simp [rtB, b7']
        rw [e, Bool.false_and]
        have hp := And.intro base2 (show adB fr = true ∧ adB to = true ∧ (fr == to) = false ∧ (fr = to) = False ∧ inB (bb.length : Nat) 1 16384 = false ∧ (bb.map bTr).length = bb.length from ⟨b4, b5, by simp [b6], eq_false b6, b7', by simp⟩)
        refine amR_succ ?_
        refine wk1 ?_
        refine am_retP rfl ?_ rfl
        first | rfl | (refine go ?_; rfl)
      have ihk := ih 1 id (by omega) (by omega) (fun _ => ⟨_, hpk, rfl⟩) (fun h => absurd h (by omega)) (by rw [← hf]; simp [rtB, hla, show (0 : Int) < id by omega, show id < n by omega, b4, b5, b6, b7])
      clear ih
      have hp := And.intro base2 (show adB fr = true ∧ adB to = true ∧ (fr == to) = false ∧ (fr = to) = False ∧ inB (bb.length : Nat) 1 16384 = true ∧ (bb.map bTr).length = bb.length from ⟨b4, b5, by simp [b6], eq_false b6, b7, by simp⟩)
      refine amR_succ ?_
      refine wk1 ?_
      refine amR_tidy [(1, 1)] [1, 3] 2 rfl ?_
      refine go1 ?_
      exact ihk
    · obtain ⟨q, hq1, hq2⟩ := hq hk0
      have base2 := And.intro base1 (show ((k : Int) > 0) = True ∧ IntKind.i64.wrap ((k : Int) - 1) = ((k - 1 : Nat) : Int) ∧ (k - 1 < ps.length) = True ∧ (ps.map Pk.tr)[k - 1]? = some q.tr from
        ⟨eq_true (by omega), by rw [wrapN (by omega) (by omega)]; omega, eq_true (by omega), by rw [List.getElem?_map, hq1]; rfl⟩)
      simp only [Pk.tr] at base2
      by_cases b3 : id ≤ q.id
      · have e : pkF ps 0 n = false := by rw [← hf]; simp [show ¬ last < id by omega]
        rw [e, Bool.false_and]
        have hp := And.intro base2 (show (id ≤ q.id) = True from eq_true b3)
        refine amR_succ ?_
        refine wk1 ?_
        refine am_retP rfl ?_ rfl
        first | rfl | (refine go ?_; rfl)
      have base3 := And.intro base2 (show (id ≤ q.id) = False from eq_false b3)
      by_cases b4 : adB fr = true
      rotate_left
      · have b4' : adB fr = false := by simpa using b4
        have e : pkF ps 0 n = false := by rw [← hf]; simp [rtB, b4']
        rw [e, Bool.false_and]
        have hp := And.intro base3 (show adB fr = false from b4')
        refine amR_succ ?_
        refine wk1 ?_
        refine am_retP rfl ?_ rfl
        first | rfl | (refine go ?_; rfl)
      by_cases b5 : adB to = true
      rotate_left
      · have b5' : adB to = false := by simpa using b5
        have e : pkF ps 0 n = false := by rw [← hf]; simp [rtB, b5']
        rw [e, Bool.false_and]
        have hp := And.intro base3 (show adB fr = true ∧ adB to = false from ⟨b4, b5'⟩)
        refine amR_succ ?_
        refine wk1 ?_
        refine am_retP rfl ?_ rfl
        first | rfl | (refine go ?_; rfl)
      by_cases b6 : fr = to
      · have e : pkF ps 0 n = false := by rw [← hf]; simp [rtB, b6]
        rw [e, Bool.false_and]
        have hp := And.intro base3 (show adB fr = true ∧ adB to = true ∧ (fr == to) = true ∧ (fr = to) = True from ⟨b4, b5, by simp [b6], eq_true b6⟩)
        refine amR_succ ?_
        refine wk1 ?_
        refine am_retP rfl ?_ rfl
        first | rfl | (refine go ?_; rfl)
      by_cases b7 : inB (bb.length : Nat) 1 16384 = true
      rotate_left
      · have b7' : inB (bb.length : Nat) 1 16384 = false := by simpa using b7
        have e : pkF ps 0 n = false := by rw [← hf]; simp [rtB, b7']
        rw [e, Bool.false_and]
        have hp := And.intro base3 (show adB fr = true ∧ adB to = true ∧ (fr == to) = false ∧ (fr = to) = False ∧ inB (bb.length : Nat) 1 16384 = false ∧ (bb.map bTr).length = bb.length from ⟨b4, b5, by simp [b6], eq_false b6, b7', by simp⟩)
        refine amR_succ ?_
        refine wk1 ?_
        refine am_retP rfl ?_ rfl
        first | rfl | (refine go ?_; rfl)
      have ihk := ih (k + 1) id (by omega) (by omega) (fun _ => ⟨_, by simpa using hpk, rfl⟩) (fun h => absurd h (by omega)) (by rw [← hf]; simp [rtB, show last < id by omega, show id < n by omega, b4, b5, b6, b7])
      clear ih
      have hp := And.intro base3 (show adB fr = true ∧ adB to = true ∧ (fr == to) = false ∧ (fr = to) = False ∧ inB (bb.length : Nat) 1 16384 = true ∧ (bb.map bTr).length = bb.length from ⟨b4, b5, by simp [b6], eq_false b6, b7, by simp⟩)
      refine amR_succ ?_
      refine wk1 ?_
      refine amR_tidy [(1, 1)] [1, 3] 2 rfl ?_
      refine go1 ?_
      exact ihk
theorem wlS_tc (b : Bg) (a : Int) (hl : b.ws.length ≤ 1048576) : TC Try.prog 66 [.agg b.cv, int a] [] 1 (bool (decide (a ∈ b.ws))) [] 1 := by
  obtain ⟨n, ps, ws⟩ := b
  simp only [Bg.cv]
  simp only at hl
  refine tc_intro Try.func66 rfl 20 rfl (Nat.le_of_ble_eq_true rfl) (by decide) [4] rfl (by intro id x h; cases h) ?_
  intro w0 E0
  have kOk := kE1
  refine wk ?_
  refine am_tidy [(1, 1)] [1, 2, 5] 2 rfl ?_
  refine go ?_
  refine am_loop (ws.length + 1) ?_
  suffices key : ∀ (d k : Nat), k + d = ws.length → (decide (a ∈ ws.drop k)) = decide (a ∈ ws) → amR Try.prog _ _ _ (d + 1) ⟨[(1, int a), (2, .c (.ptr 1 0)), (5, int (k : Nat))], [(1, .cells [ci n, .t (.sl 4 (ps.map Pk.tr)), .t (.sl 1 (ws.map iTr))])], 2⟩ from key ws.length 0 (by simp) rfl
  intro d
  induction d with
  | zero =>
    intro k hk hf
    rw [List.drop_eq_nil_of_le (by omega)] at hf
    rw [← hf]
    have hp := (show ((k : Int) < (ws.length : Int)) = False ∧ (ws.map iTr).length = ws.length from ⟨eq_false (by omega), by simp⟩)
    refine amR_succ ?_
    refine wk1 ?_
    refine am_retP rfl ?_ rfl
    first | rfl | (refine go ?_; simp)
  | succ d ih =>
    intro k hk hf
    obtain ⟨e, he⟩ : ∃ e, ws[k]? = some e := ⟨ws[k]'(by omega), List.getElem?_eq_getElem (by omega)⟩
    have hdr : ws.drop k = e :: ws.drop (k + 1) := by
      have hi := (List.getElem?_eq_some_iff.1 he).1
      have e2 : ws[k] = e := by rw [List.getElem?_eq_getElem hi] at he; exact Option.some.inj he
      rw [List.drop_eq_getElem_cons hi, e2]
    rw [hdr] at hf
    have base := (show ((k : Int) < (ws.length : Int)) = True ∧ (k < ws.length) = True ∧ (ws.map iTr).length = ws.length ∧ (ws.map iTr)[k]? = some [.v (.int .i64 e)] ∧ IntKind.i64.wrap ((k : Int) + 1) = ((k + 1 : Nat) : Int) from
      ⟨eq_true (by omega), eq_true (by omega), by simp, by rw [List.getElem?_map, he]; rfl, by rw [wrapN (by omega) (by omega)]; rfl⟩)
    by_cases c : e = a
    · have hp := And.intro base (show (e == a) = true ∧ (e = a) = True from ⟨by simp [c], eq_true c⟩)
      have e1 : decide (a ∈ ws) = true := by rw [← hf]; simp [c]
      rw [e1]
      refine amR_succ ?_
      refine wk1 ?_
      refine am_retP rfl ?_ rfl
      first | rfl | (refine go ?_; rfl)
    · have ihk := ih (k + 1) (by omega) (by rw [← hf]; simp [show ¬ a = e from fun h => c h.symm])
      clear ih
      have hp := And.intro base (show (e == a) = false ∧ (e = a) = False from ⟨by simp [c], eq_false c⟩)
      refine amR_succ ?_
      refine wk1 ?_
      refine amR_tidy [(1, 1)] [1, 2, 5] 2 rfl ?_
      refine go1 ?_
      exact ihk
end Go.Proofs.YthnpbfljoghbmaaA
