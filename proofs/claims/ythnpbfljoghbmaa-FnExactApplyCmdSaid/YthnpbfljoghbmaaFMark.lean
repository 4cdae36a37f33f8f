/- What the laws write into an answer, and read again. -/
import Derived.Test.YthnpbfljoghbmaaFNode1
namespace Go.Proofs.YthnpbfljoghbmaaA
open Go.Proofs
set_option autoImplicit false
set_option linter.unusedVariables false
set_option linter.unusedSimpArgs false
set_option maxRecDepth 4000
def dig (k : Int) : ByteArray := strOfNums [IntKind.u8.wrap (IntKind.i64.wrap (48 + k.tmod 10))]
def mtGo : Nat → Int → ByteArray → ByteArray
  | 0, _, out => out
  | f + 1, k, out => if 0 < k then mtGo f (IntKind.i64.wrap (k.tdiv 10)) (dig k ++ out) else out
def mtF (k : Int) : ByteArray := if k ≤ 0 then ⟨#[109, 48]⟩ else ⟨#[109]⟩ ++ mtGo k.toNat k ⟨#[]⟩
theorem sz109 {out : ByteArray} (h : out.size ≤ 1152921504606846976) : (((#[(109 : UInt8)].size + out.size : Nat) : Int) > IntKind.i64.max) = False := by
  have h1 : #[(109 : UInt8)].size = 1 := rfl
  have h2 : IntKind.i64.max = 9223372036854775807 := rfl
  rw [h1, h2]
  exact eq_false (by omega)
theorem szDig {out : ByteArray} {n : Int} (h : out.size ≤ 1152921504606846976) : ((((strOfNums [n]).size + out.size : Nat) : Int) > IntKind.i64.max) = False := by
  have h2 : IntKind.i64.max = 9223372036854775807 := rfl
  rw [strOfNums_size, h2]
  exact eq_false (by simp; omega)
set_option maxHeartbeats 8000000 in
theorem mt_tc (k : Int) (hk : k ≤ 1152921504606846976) : TC Try.prog 118 [int k] [] 1 (str (mtF k)) [] 1 := by
  refine tc_intro Try.func118 rfl 20 rfl (Nat.le_of_ble_eq_true rfl) (by decide) [2] rfl (by intro id x h; cases h) ?_
  intro w0 E0
  have kOk := k12
  refine wk ?_
  refine guardP_mk (fun h => ?_) (fun h => ?_)
  · refine go ?_
    refine wk ?_
    refine am_retP rfl ?_ rfl
    refine go ?_
    simp at h
    simp [mtF, h]
  · simp at h
    have hm : mtF k = ⟨#[109]⟩ ++ mtGo k.toNat k ⟨#[]⟩ := by unfold mtF; rw [if_neg (by omega)]
    rw [hm]
    refine go ?_
    refine wk ?_
    refine am_tidy [] [0, 3] 1 rfl ?_
    refine go ?_
    refine am_loop (k.toNat + 1) ?_
    suffices key : ∀ (f : Nat) (c : Int) (out : ByteArray), c.toNat ≤ f → out.size + f ≤ k.toNat → mtGo f c out = mtGo k.toNat k ⟨#[]⟩ → amR Try.prog _ _ _ (f + 1) ⟨[(0, int c), (3, str out)], [], 1⟩ from key k.toNat k _ (Nat.le_refl _) (Nat.le_of_eq (Nat.zero_add _)) rfl
    intro f
    induction f with
    | zero =>
      intro c out hc ho hr
      have hp := sz109 (out := out) (by omega)
      refine amR_succ ?_
      refine wk1 ?_
      refine guardP_mk (fun h => ?_) (fun h => ?_)
      · simp at h; omega
      · refine go1 ?_
        refine wk1 ?_
        refine am_retP rfl ?_ rfl
        refine go ?_
        rw [← hr]
        rfl
    | succ f ih =>
      intro c out hc ho hr
      have hp := And.intro (sz109 (out := out) (by omega)) (And.intro (fun n => szDig (out := out) (n := n) (by omega)) (show ((10 : Int) = 0) = False from by simp))
      refine amR_succ ?_
      refine wk1 ?_
      refine guardP_mk (fun h => ?_) (fun h => ?_)
      · simp at h
        refine go1 ?_
        refine wk1 ?_
        refine amR_tidy [] [0, 3] 1 rfl ?_
        refine go ?_
        refine ih _ _ ?_ ?_ ?_
        · rw [Int.tdiv_eq_ediv_of_nonneg (by omega), IntKind.wrap_i64]; omega
        · rw [ByteArray.size_append, strOfNums_size]; simp; omega
        · rw [← hr, mtGo, if_pos h]; rfl
      · simp at h
        refine go1 ?_
        refine wk1 ?_
        refine am_retP rfl ?_ rfl
        refine go ?_
        rw [← hr, mtGo, if_neg (by omega)]
def kn13_0_0 (n : Int) : Option TV := if n ≤ 1152921504606846976 then some (str (mtF n)) else none
def kn13_0 : List TV → Option TV
  | [.c (.t (.v (.int .i64 n)))] => kn13_0_0 n
  | _ => none
def kn13_call (f : FuncId) (args : List TV) : Option TV := if f = 118 then orO (kn13_0 args) (kn12.call f args) else kn12.call f args
def kn13 : Kn := { call := kn13_call, eqs := eqTys, callB := kn12.callB }
attribute [go_sem] kn13_0_0 kn13_0 kn13_call kn13
theorem kn13_ok : ∀ f args res, kn13_call f args = some res → TC Try.prog f args [] 1 res [] 1 := by
  intro f args res h
  unfold kn13_call at h
  split at h
  · rename_i e; subst e
    have hh := orO_elim h
    clear h
    rcases hh with h | h
    rotate_left
    · exact k12.call _ _ _ h
    unfold kn13_0 at h
    split at h
    · rename_i n; unfold kn13_0_0 at h
      split at h
      · rename_i hc; cases h; exact mt_tc n hc
      · cases h
    · cases h
  · exact k12.call f args res h
theorem k13 : KnOk Try.prog kn13 := ⟨kn13_ok, eqTysOk, k12.callB⟩
def mkE (c : Int) : Ent := ⟨c, ⟨c + 1, c + 1 + 1, c + 1 + 1 + 1, mtF (c + 1 + 1 + 1 + 1), mtF (c + 1 + 1 + 1 + 1 + 1), mtF (c + 1 + 1 + 1 + 1 + 1 + 1)⟩⟩
def mkEs (n : Nat) (k : Int) : List Ent := (List.range n).map fun i => mkE (k + 7 * (i : Nat))
theorem mkEs_len (n : Nat) (k : Int) : (mkEs n k).length = n := by simp [mkEs]
theorem mkEs_get {n i : Nat} (k : Int) (h : i < n) : (mkEs n k)[i]? = some (mkE (k + 7 * (i : Nat))) := by simp [mkEs, h]
/-- A row marked so far. -/
def partM (l : List Ent) (k : Int) (i : Nat) : List (List Tree) := (mkEs i k).map Ent.tr ++ (l.drop i).map Ent.tr
theorem partM_zero {l : List Ent} {k : Int} : partM l k 0 = l.map Ent.tr := by simp [partM, mkEs]
theorem partM_all {l : List Ent} {k : Int} : partM l k l.length = (mkEs l.length k).map Ent.tr := by simp [partM]
theorem partM_len {l : List Ent} {k : Int} {i : Nat} (h : i ≤ l.length) : (partM l k i).length = l.length := by simp [partM, mkEs_len]; omega
theorem partM_set {l : List Ent} {k : Int} {i : Nat} (h : i < l.length) : (partM l k i).set i (mkE (k + 7 * (i : Nat))).tr = partM l k (i + 1) := by
  unfold partM
  have h1 : ((mkEs i k).map Ent.tr).length = i := by simp [mkEs_len]
  rw [List.set_append_right _ _ (by omega), h1, Nat.sub_self, List.drop_eq_getElem_cons h, List.map_cons, List.set_cons_zero]
  have h2 : mkEs (i + 1) k = mkEs i k ++ [mkE (k + 7 * (i : Nat))] := by simp [mkEs, List.range_succ]
  rw [h2, List.map_append, List.append_assoc]
  rfl
theorem partM_at {l : List Ent} {k : Int} {i : Nat} {e : Ent} (h : l[i]? = some e) : (partM l k i)[i]? = some e.tr := by
  unfold partM
  have h1 : ((mkEs i k).map Ent.tr).length = i := by simp [mkEs_len]
  rw [List.getElem?_append_right (by omega), h1, Nat.sub_self, List.getElem?_map, List.getElem?_drop, Nat.add_zero, h]
  rfl
set_option maxHeartbeats 16000000 in
theorem markEs_tc (l : List Ent) (k : Int) (h0 : 0 ≤ k) (hk : k + 7 * l.length ≤ 1099511627776) : TC Try.prog 48 [.c (.own 1 0 l.length), int k] [(1, .arr 166 7 (l.map Ent.tr))] 2 (int (k + 7 * l.length)) [(1, .arr 166 7 ((mkEs l.length k).map Ent.tr))] 2 := by
  refine tc_intro Try.func48 rfl 71 rfl (Nat.le_of_ble_eq_true rfl) (by decide) [4] rfl dom1 ?_
  intro w0 E0
  have kOk := k13
  refine wk ?_
  refine am_tidy [(1, 1)] [0, 1, 5] 2 rfl ?_
  refine go ?_
  refine am_loop (l.length + 1) ?_
  suffices key : ∀ (d i : Nat) (c : Int), i + d = l.length → c = k + 7 * (i : Nat) → amR Try.prog _ _ _ (d + 1) ⟨[(0, .c (.own 1 0 l.length)), (1, int c), (5, int (i : Nat))], [(1, .arr 166 7 (partM l k i))], 2⟩ from by
    have := key l.length 0 k (by simp) (by simp)
    rw [partM_zero] at this
    exact this
  intro d
  induction d with
  | zero =>
    intro i c hi hc
    refine amR_succ ?_
    refine wk ?_
    refine guardP_mk (fun h => ?_) (fun h => ?_)
    · simp at h; omega
    · refine go ?_
      refine wk ?_
      have hi' : i = l.length := hi
      subst hi'
      rw [partM_all]
      subst hc
      refine am_retB [(1, 1)] rfl ?_ ?_ rfl <;> first | refine go ?_ | rfl
  | succ d ih =>
    intro i c hi hc
    obtain ⟨e, he⟩ : ∃ e, l[i]? = some e := ⟨l[i]'(by omega), List.getElem?_eq_getElem (by omega)⟩
    have hat := partM_at (k := k) he
    have hset := partM_set (k := k) (show i < l.length by omega)
    rw [← hc] at hset
    have hlen := partM_len (k := k) (show i ≤ l.length by omega)
    have hp := (show (partM l k i)[i]? = some e.tr ∧ (partM l k i).set i (mkE c).tr = partM l k (i + 1) ∧ (∀ r : List Tree, ((partM l k i).set i r)[i]? = some r) ∧ (∀ r s : List Tree, ((partM l k i).set i r).set i s = (partM l k i).set i s) ∧
        IntKind.i64.wrap ((i : Int) + 1) = ((i + 1 : Nat) : Int) ∧ (i < l.length) = True ∧ IntKind.i64.wrap (c + 1) = c + 1 ∧ IntKind.i64.wrap (c + 1 + 1) = c + 1 + 1 ∧ IntKind.i64.wrap (c + 1 + 1 + 1) = c + 1 + 1 + 1 ∧ IntKind.i64.wrap (c + 1 + 1 + 1 + 1) = c + 1 + 1 + 1 + 1 ∧
        IntKind.i64.wrap (c + 1 + 1 + 1 + 1 + 1) = c + 1 + 1 + 1 + 1 + 1 ∧ IntKind.i64.wrap (c + 1 + 1 + 1 + 1 + 1 + 1) = c + 1 + 1 + 1 + 1 + 1 + 1 ∧ IntKind.i64.wrap (c + 1 + 1 + 1 + 1 + 1 + 1 + 1) = c + 1 + 1 + 1 + 1 + 1 + 1 + 1 ∧ (c + 1 + 1 + 1 + 1 ≤ 1152921504606846976) = True ∧ (c + 1 + 1 + 1 + 1 + 1 ≤ 1152921504606846976) = True ∧ (c + 1 + 1 + 1 + 1 + 1 + 1 ≤ 1152921504606846976) = True from
      ⟨hat, hset, fun r => by rw [List.getElem?_set_self (by omega)], fun r s => by rw [List.set_set], by rw [wrapN (by omega) (by omega)]; rfl, eq_true (by omega), wrapN (by omega) (by omega), wrapN (by omega) (by omega), wrapN (by omega) (by omega), wrapN (by omega) (by omega), wrapN (by omega) (by omega), wrapN (by omega) (by omega), wrapN (by omega) (by omega), eq_true (by omega), eq_true (by omega), eq_true (by omega)⟩)
    clear hat hset hlen
    obtain ⟨t, ⟨a, b, o, x, y, z⟩⟩ := e
    simp only [Ent.tr, mkE] at hp
    refine amR_succ ?_
    refine wk1 ?_
    refine guardP_mk (fun h => ?_) (fun h => ?_)
    · refine go1 ?_
      refine wk1 ?_
      refine amR_tidy [(1, 1)] [0, 1, 5] 2 rfl ?_
      refine go1 ?_
      exact ih (i + 1) _ (by omega) (by omega)
    · simp at h; omega
end Go.Proofs.YthnpbfljoghbmaaA
