/- Bags: well-formed. -/
import Derived.Test.YthnpbfljoghbmaaBBag
namespace Go.Proofs.YthnpbfljoghbmaaA
open Go.Proofs
set_option autoImplicit false
set_option linter.unusedVariables false
set_option linter.unusedSimpArgs false
set_option maxRecDepth 4000
structure Pk where
  id : Int
  fr : Int
  to : Int
  bytes : List Int
def Pk.tr (p : Pk) : List Tree := [.v (.int .i64 p.id), .v (.int .i64 p.fr), .v (.int .i64 p.to), .sl 1 (p.bytes.map bTr)]
/-- A statement, and what comes behind it from ONE state, with what is known there. -/
theorem am_scut {P : Program} {C : Ctx} {Q : Exit → St → Prop} {st : St} {x z : Code} (F : Prop) (st1 : St) (hz : F → am P C z Q st1)
    (hx : ∀ K : St → Prop, (∀ (st' : St) (ρ : List (Nat × Nat)) (ts : List Nat) (N : Nat), F → tidyOk C.n0 ρ N = true → st'.tidy ρ ts N = st1 → K st') → am P C x (thenQ K Q) st) : am P C (.seq x z) Q st :=
  am_seq (hx _ fun st' ρ ts N hF hok he => am_tidy ρ ts N hok (by rw [he]; exact hz hF))
def pkF : List Pk → Int → Int → Bool
  | [], _, _ => true
  | p :: l, last, n => decide (last < p.id) && decide (p.id < n) && rtB p.fr p.to p.bytes.length && pkF l p.id n
theorem pkF_drop {l : List Pk} {i : Nat} {p : Pk} {last n : Int} (h : l[i]? = some p) : pkF (l.drop i) last n = (decide (last < p.id) && decide (p.id < n) && rtB p.fr p.to p.bytes.length && pkF (l.drop (i + 1)) p.id n) := by
  have hi := (List.getElem?_eq_some_iff.1 h).1
  have e : l[i] = p := by rw [List.getElem?_eq_getElem hi] at h; exact Option.some.inj h
  rw [List.drop_eq_getElem_cons hi, pkF, e]
def waF : List Int → Int → Bool
  | [], _ => true
  | w :: l, last => decide (last < w) && decide (w ≤ 7) && waF l w
theorem waF_drop {l : List Int} {i : Nat} {w last : Int} (h : l[i]? = some w) : waF (l.drop i) last = (decide (last < w) && decide (w ≤ 7) && waF (l.drop (i + 1)) w) := by
  have hi := (List.getElem?_eq_some_iff.1 h).1
  have e : l[i] = w := by rw [List.getElem?_eq_getElem hi] at h; exact Option.some.inj h
  rw [List.drop_eq_getElem_cons hi, waF, e]
def bgF (n : Int) (ps : List Pk) (ws : List Int) : Bool := inB n 1 1099511627776 && decide (ps.length ≤ 4096) && pkF ps 0 n && waF ws 0
def kb3_0_1 (f : Int) (t : Int) (l : List Int) : Option TV := some (bool (rtB f t l.length))
def kb3_0_0 (f : Int) (t : Int) (r2 : List (List Tree)) : Option TV := (unBys r2).bind (kb3_0_1 f t)
def kb3_0 : List TV → Option TV
  | [.c (.t (.v (.int .i64 f))), .c (.t (.v (.int .i64 t))), .c (.t (.sl 1 r2))] => kb3_0_0 f t r2
  | _ => none
def kb3_call (f : FuncId) (args : List TV) : Option TV := if f = 73 then orO (kb3_0 args) (kb2.call f args) else kb2.call f args
def kb3 : Kn := { call := kb3_call, eqs := eqTys, callB := kb2.callB }
attribute [go_sem] kb3_0_0 kb3_0_1 kb3_0 kb3_call kb3
theorem kb3_ok : ∀ f args res, kb3_call f args = some res → TC Try.prog f args [] 1 res [] 1 := by
  intro f args res h
  unfold kb3_call at h
  split at h
  · rename_i e; subst e
    have hh := orO_elim h
    clear h
    rcases hh with h | h
    rotate_left
    · exact kB2.call _ _ _ h
    unfold kb3_0 at h
    split at h
    · rename_i f t r2; unfold kb3_0_0 at h
      obtain ⟨l, e0, h⟩ := Option.bind_eq_some_iff.1 h
      unfold kb3_0_1 at h
      cases h; rw [unBys_ok e0]; exact route_tc f t l
    · cases h
  · exact kB2.call f args res h
theorem kB3 : KnOk Try.prog kb3 := ⟨kb3_ok, eqTysOk, kB2.callB⟩
set_option maxHeartbeats 32000000 in
theorem bagOk_tc (n : Int) (ps : List Pk) (ws : List Int) (hl : ps.length ≤ 1048576) (hw : ws.length ≤ 1048576) : TC Try.prog 70 [.agg [ci n, .t (.sl 4 (ps.map Pk.tr)), .t (.sl 1 (ws.map iTr))]] [] 1 (bool (bgF n ps ws)) [] 1 := by
  refine tc_intro Try.func70 rfl 65 rfl (Nat.le_of_ble_eq_true rfl) (by decide) [2] rfl (by intro id x h; cases h) ?_
  intro w0 E0
  have kOk := kB3
  by_cases c1 : inB n 1 1099511627776 = true
  rotate_left
  · have c1' : inB n 1 1099511627776 = false := by simpa using c1
    have e : bgF n ps ws = false := by simp [bgF, c1']
    rw [e]
    have hp := c1'
    refine wk1 ?_
    refine am_retP rfl ?_ rfl
    first | rfl | (refine go ?_; rfl)
  by_cases c2 : ps.length ≤ 4096
  rotate_left
  · have e : bgF n ps ws = false := by simp [bgF, c2]
    rw [e]
    have hp := (show inB n 1 1099511627776 = true ∧ (ps.map Pk.tr).length = ps.length ∧ ((ps.length : Int) > 4096) = True from ⟨c1, by simp, eq_true (by omega)⟩)
    refine wk1 ?_
    refine am_retP rfl ?_ rfl
    first | rfl | (refine go ?_; rfl)
  have eb : bgF n ps ws = (pkF ps 0 n && waF ws 0) := by simp [bgF, c1, c2]
  rw [eb]
  have hp := (show inB n 1 1099511627776 = true ∧ (ps.map Pk.tr).length = ps.length ∧ ((ps.length : Int) > 4096) = False from ⟨c1, by simp, eq_false (by omega)⟩)
  refine wk1 ?_
  refine am_tidy [(1, 1)] [1, 3, 19, 20, 21] 2 rfl ?_
  refine go1 ?_
  clear hp
  refine am_loop (ps.length + 1) ?_
  suffices key : ∀ (d k : Nat) (last : Int), k + d = ps.length → pkF (ps.drop k) last n = pkF ps 0 n → amR Try.prog _ _ _ (d + 1) ⟨[(1, .c (.ptr 1 0)), (3, int last), (19, ro 4 (ps.map Pk.tr)), (20, int (ps.length : Nat)), (21, int (k : Nat))], [(1, .cells [ci n, .t (.sl 4 (ps.map Pk.tr)), .t (.sl 1 (ws.map iTr))])], 2⟩ from key ps.length 0 0 (by simp) rfl
  intro d
  induction d with
  | zero =>
    intro k last hk hf
    rw [List.drop_eq_nil_of_le (by omega), pkF] at hf
    rw [← hf, Bool.true_and]
    have hp := (show ((k : Int) < (ps.length : Int)) = False ∧ (ws.map iTr).length = ws.length from ⟨eq_false (by omega), by simp⟩)
    refine amR_succ ?_
    refine wk1 ?_
    refine am_tidy [(1, 1)] [3, 50, 51, 52] 2 rfl ?_
    refine go1 ?_
    clear hp
    refine am_loop (ws.length + 1) ?_
    suffices key2 : ∀ (d j : Nat) (la : Int), j + d = ws.length → waF (ws.drop j) la = waF ws 0 → amR Try.prog _ _ _ (d + 1) ⟨[(3, int la), (50, ro 1 (ws.map iTr)), (51, int (ws.length : Nat)), (52, int (j : Nat))], [(1, .cells [ci n, .t (.sl 4 (ps.map Pk.tr)), .t (.sl 1 (ws.map iTr))])], 2⟩ from key2 ws.length 0 0 (by simp) rfl
    intro d
    induction d with
    | zero =>
      intro j la hj hg
      rw [List.drop_eq_nil_of_le (by omega), waF] at hg
      rw [← hg]
      have hp := (show ((j : Int) < (ws.length : Int)) = False from eq_false (by omega))
      refine amR_succ ?_
      refine wk1 ?_
      refine am_retP rfl ?_ rfl
      first | rfl | (refine go ?_; rfl)
    | succ d ih =>
      intro j la hj hg
      obtain ⟨w, hw'⟩ : ∃ e, ws[j]? = some e := ⟨ws[j]'(by omega), List.getElem?_eq_getElem (by omega)⟩
      rw [waF_drop hw'] at hg
      have base := (show ((j : Int) < (ws.length : Int)) = True ∧ (j < ws.length) = True ∧ (ws.map iTr)[j]? = some [.v (.int .i64 w)] ∧ IntKind.i64.wrap ((j : Int) + 1) = ((j + 1 : Nat) : Int) from
        ⟨eq_true (by omega), eq_true (by omega), by rw [List.getElem?_map, hw']; rfl, by rw [wrapN (by omega) (by omega)]; rfl⟩)
      by_cases a1 : la < w
      · by_cases a2 : w ≤ 7
        · have ihk := ih (j + 1) w (by omega) (by rw [← hg]; simp [a1, a2])
          clear ih
          have hp := And.intro base (show (w ≤ la) = False ∧ (w > 7) = False from ⟨eq_false (by omega), eq_false (by omega)⟩)
          refine amR_succ ?_
          refine wk1 ?_
          refine amR_tidy [(1, 1)] [3, 50, 51, 52] 2 rfl ?_
          refine go1 ?_
          exact ihk
        · have e : waF ws 0 = false := by rw [← hg]; simp [a2]
          rw [e]
          have hp := And.intro base (show (w ≤ la) = False ∧ (w > 7) = True from ⟨eq_false (by omega), eq_true (by omega)⟩)
          refine amR_succ ?_
          refine wk1 ?_
          refine am_retP rfl ?_ rfl
          first | rfl | (refine go ?_; rfl)
      · have e : waF ws 0 = false := by rw [← hg]; simp [a1]
        rw [e]
        have hp := And.intro base (show (w ≤ la) = True from eq_true (by omega))
        refine amR_succ ?_
        refine wk1 ?_
        refine am_retP rfl ?_ rfl
        first | rfl | (refine go ?_; rfl)
  | succ d ih =>
    intro k last hk hf
    obtain ⟨p, hpk⟩ : ∃ e, ps[k]? = some e := ⟨ps[k]'(by omega), List.getElem?_eq_getElem (by omega)⟩
    rw [pkF_drop hpk] at hf
    have base := (show ((k : Int) < (ps.length : Int)) = True ∧ (k < ps.length) = True ∧ (ps.map Pk.tr)[k]? = some p.tr ∧ IntKind.i64.wrap ((k : Int) + 1) = ((k + 1 : Nat) : Int) from
      ⟨eq_true (by omega), eq_true (by omega), by rw [List.getElem?_map, hpk]; rfl, by rw [wrapN (by omega) (by omega)]; rfl⟩)
    obtain ⟨id, fr, to, bb⟩ := p
    simp only [Pk.tr] at base
    simp only at hf
    by_cases a1 : last < id
    · by_cases a2 : id < n
      · by_cases a3 : rtB fr to bb.length = true
        · have ihk := ih (k + 1) id (by omega) (by rw [← hf]; simp [a1, a2, a3])
          clear ih
          have hp := And.intro base (show (id ≤ last) = False ∧ (id ≥ n) = False ∧ rtB fr to bb.length = true from ⟨eq_false (by omega), eq_false (by omega), a3⟩)
          refine amR_succ ?_
          refine wk1 ?_
          refine amR_tidy [(1, 1)] [1, 3, 19, 20, 21] 2 rfl ?_
          refine go1 ?_
          exact ihk
        · have a3' : rtB fr to bb.length = false := by simpa using a3
          have e : pkF ps 0 n = false := by rw [← hf]; simp [a3']
          rw [e, Bool.false_and]
          have hp := And.intro base (show (id ≤ last) = False ∧ (id ≥ n) = False ∧ rtB fr to bb.length = false from ⟨eq_false (by omega), eq_false (by omega), a3'⟩)
          refine amR_succ ?_
          refine wk1 ?_
          refine am_retP rfl ?_ rfl
          first | rfl | (refine go ?_; rfl)
      · have e : pkF ps 0 n = false := by rw [← hf]; simp [a2]
        rw [e, Bool.false_and]
        have hp := And.intro base (show (id ≤ last) = False ∧ (id ≥ n) = True from ⟨eq_false (by omega), eq_true (by omega)⟩)
        refine amR_succ ?_
        refine wk1 ?_
        refine am_retP rfl ?_ rfl
        first | rfl | (refine go ?_; rfl)
    · have e : pkF ps 0 n = false := by rw [← hf]; simp [a1]
      rw [e, Bool.false_and]
      have hp := And.intro base (show (id ≤ last) = True from eq_true (by omega))
      refine amR_succ ?_
      refine wk1 ?_
      refine am_retP rfl ?_ rfl
      first | rfl | (refine go ?_; rfl)
end Go.Proofs.YthnpbfljoghbmaaA
