/- Tables at work: two maps made of a table. -/
import Derived.Test.YthnpbfljoghbmaaCWf2
import Derived.Test.YthnpbfljoghbmaaCKeys
namespace Go.Proofs.YthnpbfljoghbmaaA
open Go.Proofs
set_option autoImplicit false
set_option linter.unusedVariables false
set_option linter.unusedSimpArgs false
set_option maxRecDepth 4000
theorem sameT (a b : ByteArray) : decide (a = b) = sameK (.string a) (.string b) := by
  rw [Bool.eq_iff_iff, decide_eq_true_eq]
  constructor
  · rintro rfl; exact sameK_refl (d := none) ⟨_, rfl⟩
  · intro h; have := sameK_eq (d := none) ⟨_, rfl⟩ ⟨_, rfl⟩ h; cases this; rfl
theorem sameI (a b : Int) : decide (a = b) = sameK (.int .i64 a) (.int .i64 b) := rfl
def setP (p : Pr) (l : List Pr) : List Pr := tset (fun b => decide (p.k = b.k)) p l
def setS (s : Ss) (l : List Ss) : List Ss := tset (fun b => decide (s.cl = b.cl)) s l
def delP (k : ByteArray) (l : List Pr) : List Pr := tdel (fun b => decide (k = b.k)) l
def getP (k : ByteArray) (l : List Pr) : Option Pr := l.find? fun b => decide (k = b.k)
def getS (k : Int) (l : List Ss) : Option Ss := l.find? fun b => decide (k = b.cl)
theorem setP_m (k v : ByteArray) (l : List Pr) : mset (.string k) (.string v) (l.map entP) = (setP ⟨k, v⟩ l).map entP := mset_map entP (a := ⟨k, v⟩) rfl (fun b => sameT k b.k) l
theorem setS_m (a q o : Int) (v : ByteArray) (l : List Ss) : mset (.int .i64 a) (.agg #[.int .i64 a, .int .i64 q, .int .i64 o, .string v]) (l.map entS) = (setS ⟨a, q, o, v⟩ l).map entS := mset_map entS (a := ⟨a, q, o, v⟩) rfl (fun b => sameI a b.cl) l
theorem delP_m (k : ByteArray) (l : List Pr) : mdel (.string k) (l.map entP) = (delP k l).map entP := mdel_map entP (fun b => sameT k b.k) l
theorem getP_m (k : ByteArray) (l : List Pr) : (getP k l = none → mfind (.string k) (l.map entP) 0 = none) ∧ ∀ a, getP k l = some a → ∃ j, mfind (.string k) (l.map entP) 0 = some (j, .string a.v) := mfind_map entP (fun b => sameT k b.k) l 0
theorem getS_m (k : Int) (l : List Ss) : (getS k l = none → mfind (.int .i64 k) (l.map entS) 0 = none) ∧ ∀ a, getS k l = some a → ∃ j, mfind (.int .i64 k) (l.map entS) 0 = some (j, .agg #[.int .i64 a.cl, .int .i64 a.sq, .int .i64 a.co, .string a.v]) := mfind_map entS (fun b => sameI k b.cl) l 0
def mkP (ps : List Pr) : List Pr := ps.foldl (fun l p => setP p l) []
def mkS (ss : List Ss) : List Ss := ss.foldl (fun l s => setS s l) []
theorem mkP_snoc (ps : List Pr) (p : Pr) : mkP (ps ++ [p]) = setP p (mkP ps) := by simp [mkP]
theorem mkS_snoc (ss : List Ss) (s : Ss) : mkS (ss ++ [s]) = setS s (mkS ss) := by simp [mkS]
set_option maxHeartbeats 32000000 in
theorem newT_tc (ps : List Pr) (ss : List Ss) (hl : ps.length ≤ 1048576) (hw : ss.length ≤ 1048576) : TC Try.prog 105 [.agg [.t (.sl 2 (ps.map Pr.tr)), .t (.sl 4 (ss.map Ss.tr))]] [] 1 (.c (.ptr 1 0)) [(1, .cells [.mp 2, .mp 3]), (2, .mp none ((mkP ps).map entP)), (3, .mp (some .i64) ((mkS ss).map entS))] 4 := by
  refine tc_intro Try.func105 rfl 44 rfl (Nat.le_of_ble_eq_true rfl) (by decide) [2] rfl (by intro id x h; cases h) ?_
  intro w0 E0
  have kOk := kT1
  have hp := (show (ps.map Pr.tr).length = ps.length from by simp)
  refine wk1 ?_
  refine am_tidy [(1, 1), (2, 2), (3, 3), (4, 4)] [1, 3, 13, 14, 15] 5 rfl ?_
  refine go1 ?_
  clear hp
  refine am_loop (ps.length + 1) ?_
  suffices key : ∀ (d k : Nat) (es : List (Value × Value)), k + d = ps.length → es = (mkP (ps.take k)).map entP → amR Try.prog _ _ _ (d + 1) ⟨[(1, .c (.ptr 1 0)), (3, .c (.ptr 4 0)), (13, ro 2 (ps.map Pr.tr)), (14, int (ps.length : Nat)), (15, int (k : Nat))], [(1, .cells [.t (.sl 2 (ps.map Pr.tr)), .t (.sl 4 (ss.map Ss.tr))]), (2, .mp none es), (3, .mp (some .i64) []), (4, .cells [.mp 2, .mp 3])], 5⟩ from key ps.length 0 [] (by simp) rfl
  intro d
  induction d with
  | zero =>
    intro k es hk he
    have hk' : k = ps.length := hk
    rw [hk', List.take_length] at he
    have hp := (show ((k : Int) < (ps.length : Int)) = False ∧ (ss.map Ss.tr).length = ss.length from ⟨eq_false (by omega), by simp⟩)
    refine amR_succ ?_
    refine wk1 ?_
    refine am_tidy [(2, 2), (3, 3), (4, 1)] [3, 29, 30, 31] 4 rfl ?_
    refine go1 ?_
    clear hp
    refine am_loop (ss.length + 1) ?_
    suffices key2 : ∀ (d j : Nat) (fs : List (Value × Value)), j + d = ss.length → fs = (mkS (ss.take j)).map entS → amR Try.prog _ _ _ (d + 1) ⟨[(3, .c (.ptr 1 0)), (29, ro 4 (ss.map Ss.tr)), (30, int (ss.length : Nat)), (31, int (j : Nat))], [(2, .mp none es), (3, .mp (some .i64) fs), (1, .cells [.mp 2, .mp 3])], 4⟩ from key2 ss.length 0 [] (by simp) rfl
    intro d
    induction d with
    | zero =>
      intro j fs hj hf
      have hj' : j = ss.length := hj
      rw [hj', List.take_length] at hf
      subst hf he
      have hp := (show ((j : Int) < (ss.length : Int)) = False from eq_false (by omega))
      refine amR_succ ?_
      refine wk1 ?_
      refine am_retB [(1, 1), (2, 2), (3, 3)] rfl ?_ ?_ rfl <;> first | refine go ?_ | rfl
    | succ d ih =>
      intro j fs hj hf
      obtain ⟨s, hs⟩ : ∃ e, ss[j]? = some e := ⟨ss[j]'(by omega), List.getElem?_eq_getElem (by omega)⟩
      obtain ⟨a, q, o, v⟩ := s
      have ihk := ih (j + 1) (mset (.int .i64 a) (.agg #[.int .i64 a, .int .i64 q, .int .i64 o, .string v]) fs) (by omega) (by rw [List.take_add_one, hs, hf, setS_m]; exact congrArg (List.map entS) (mkS_snoc _ _).symm)
      clear ih
      have hp := (show ((j : Int) < (ss.length : Int)) = True ∧ (j < ss.length) = True ∧ (ss.map Ss.tr)[j]? = some [.v (.int .i64 a), .v (.int .i64 q), .v (.int .i64 o), .v (.string v)] ∧ IntKind.i64.wrap ((j : Int) + 1) = ((j + 1 : Nat) : Int) from
        ⟨eq_true (by omega), eq_true (by omega), by rw [List.getElem?_map, hs]; rfl, by rw [wrapN (by omega) (by omega)]; rfl⟩)
      refine amR_succ ?_
      refine wk1 ?_
      refine amR_tidy [(2, 2), (3, 3), (1, 1)] [3, 29, 30, 31] 4 rfl ?_
      refine go1 ?_
      exact ihk
  | succ d ih =>
    intro k es hk he
    obtain ⟨p, hpk⟩ : ∃ e, ps[k]? = some e := ⟨ps[k]'(by omega), List.getElem?_eq_getElem (by omega)⟩
    obtain ⟨a, v⟩ := p
    have ihk := ih (k + 1) (mset (.string a) (.string v) es) (by omega) (by rw [List.take_add_one, hpk, he, setP_m]; exact congrArg (List.map entP) (mkP_snoc _ _).symm)
    clear ih
    have hp := (show ((k : Int) < (ps.length : Int)) = True ∧ (k < ps.length) = True ∧ (ps.map Pr.tr)[k]? = some [.v (.string a), .v (.string v)] ∧ IntKind.i64.wrap ((k : Int) + 1) = ((k + 1 : Nat) : Int) from
      ⟨eq_true (by omega), eq_true (by omega), by rw [List.getElem?_map, hpk]; rfl, by rw [wrapN (by omega) (by omega)]; rfl⟩)
    refine amR_succ ?_
    refine wk1 ?_
    refine amR_tidy [(1, 1), (2, 2), (3, 3), (4, 4)] [1, 3, 13, 14, 15] 5 rfl ?_
    refine go1 ?_
    exact ihk
end Go.Proofs.YthnpbfljoghbmaaA
