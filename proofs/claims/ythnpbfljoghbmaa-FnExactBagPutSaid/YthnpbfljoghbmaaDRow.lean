/- Rows of bytes and of numbers: what the laws and the reference do with them. -/
import Derived.Test.YthnpbfljoghbmaaBBag2
import Derived.Test.YthnpbfljoghbmaaAmNest
import Derived.WalkSpells
import Derived.Laws.Cover3
import Derived.Test.YthnpbfljoghbmaaAmDrawF
namespace Go.Proofs.YthnpbfljoghbmaaA
open Go.Proofs
set_option autoImplicit false
set_option linter.unusedVariables false
set_option linter.unusedSimpArgs false
set_option maxRecDepth 4000
def unInts : List (List Tree) → Option (List Int)
  | [] => some []
  | x :: l => match x, unInts l with
    | [.v (.int .i64 n)], some es => some (n :: es)
    | _, _ => none
@[go_sem] theorem unInts_map (l : List Int) : unInts (l.map iTr) = some l := by
  induction l with
  | nil => rfl
  | cons e l ih => simp only [List.map_cons, unInts, ih]; rfl
theorem unInts_ok : ∀ {xs : List (List Tree)} {l : List Int}, unInts xs = some l → xs = l.map iTr
  | [], l, h => by cases h; rfl
  | x :: xs, l, h => by
    unfold unInts at h
    split at h
    · rename_i n es he
      cases h
      rw [unInts_ok he]
      rfl
    · cases h
set_option maxHeartbeats 8000000 in
theorem eqBys_tc (l r : List Int) (hl : l.length ≤ 1048576) : TC Try.prog 17 [ro 1 (l.map bTr), ro 1 (r.map bTr)] [] 1 (bool (decide (l = r))) [] 1 := by
  refine tc_intro Try.func17 rfl 26 rfl (Nat.le_of_ble_eq_true rfl) (by decide) [4] rfl (by intro id x h; cases h) ?_
  intro w0 E0
  have kOk := kB3
  have hp : (l.map bTr).length = l.length ∧ (r.map bTr).length = r.length := by simp
  refine wk1 ?_
  refine guardP_mk (fun h => ?_) (fun h => ?_)
  · refine go1 ?_
    refine wk1 ?_
    refine am_retP rfl ?_ rfl
    refine go ?_
    have : ¬ l = r := fun e => by subst e; simp at h
    simp [this]
  have hlr : l.length = r.length := by simp at h; omega
  refine go1 ?_
  refine wk1 ?_
  refine am_tidy [] [0, 1, 5] 1 rfl ?_
  refine go1 ?_
  clear hp
  refine am_loop (l.length + 1) ?_
  suffices key : ∀ (d k : Nat), k + d = l.length → l.take k = r.take k → amR Try.prog _ _ _ (d + 1) ⟨[(0, ro 1 (l.map bTr)), (1, ro 1 (r.map bTr)), (5, int (k : Nat))], [], 1⟩ from key l.length 0 (by simp) rfl
  intro d
  induction d with
  | zero =>
    intro k hk ht
    have hp : (l.map bTr).length = l.length := by simp
    refine amR_succ ?_
    refine wk1 ?_
    refine guardP_mk (fun h => ?_) (fun h => ?_)
    · simp at h; omega
    · refine go1 ?_
      refine wk1 ?_
      refine am_retP rfl ?_ rfl
      refine go ?_
      have : l = r := by rwa [List.take_of_length_le (by omega), List.take_of_length_le (by omega)] at ht
      simp [this]
  | succ d ih =>
    intro k hk ht
    obtain ⟨e, he⟩ : ∃ e, l[k]? = some e := ⟨l[k]'(by omega), List.getElem?_eq_getElem (by omega)⟩
    obtain ⟨e', he'⟩ : ∃ e', r[k]? = some e' := ⟨r[k]'(by omega), List.getElem?_eq_getElem (by omega)⟩
    have hp := (show (l.map bTr).length = l.length ∧ (l.map bTr)[k]? = some (bTr e) ∧ (r.map bTr)[k]? = some (bTr e') ∧ IntKind.i64.wrap ((k : Int) + 1) = ((k + 1 : Nat) : Int) from
      ⟨by simp, by rw [List.getElem?_map, he]; rfl, by rw [List.getElem?_map, he']; rfl, by rw [wrapN (by omega) (by omega)]; rfl⟩)
    have hee : e = e' → l.take (k + 1) = r.take (k + 1) := fun h => by rw [List.take_add_one, List.take_add_one, ht, he, he', h]
    have hne : e ≠ e' → l ≠ r := fun hx h2 => by subst h2; rw [he] at he'; exact hx (Option.some.inj he')
    obtain e := e
    obtain e' := e'
    simp only [bTr] at hp
    refine amR_succ ?_
    refine wk1 ?_
    refine guardP_mk (fun h => ?_) (fun h => ?_)
    · refine go1 ?_
      refine wk1 ?_
      refine guardP_mk (fun h => ?_) (fun h => ?_)
      · refine go1 ?_
        refine wk1 ?_
        refine am_retP rfl ?_ rfl
        refine go ?_
        have := hne (by intro hx; simp at h; simp_all)
        simp [this]
      · refine go1 ?_
        refine wk1 ?_
        refine amR_tidy [] [0, 1, 5] 1 rfl ?_
        refine go1 ?_
        exact ih (k + 1) (by omega) (hee (by simp at h; simp_all))
    · simp at h; omega
def mkB (c : Int) : Int := IntKind.u8.wrap c
def mkBs (n : Nat) (k : Int) : List Int := (List.range n).map fun i => mkB (k + (i : Nat))
theorem mkBs_len (n : Nat) (k : Int) : (mkBs n k).length = n := by simp [mkBs]
theorem mkBs_get {n i : Nat} (k : Int) (h : i < n) : (mkBs n k)[i]? = some (mkB (k + (i : Nat))) := by simp [mkBs, h]
def partB (l : List Int) (k : Int) (i : Nat) : List (List Tree) := (mkBs i k).map bTr ++ (l.drop i).map bTr
theorem partB_zero {l : List Int} {k : Int} : partB l k 0 = l.map bTr := by simp [partB, mkBs]
theorem partB_all {l : List Int} {k : Int} : partB l k l.length = (mkBs l.length k).map bTr := by simp [partB]
theorem partB_len {l : List Int} {k : Int} {i : Nat} (h : i ≤ l.length) : (partB l k i).length = l.length := by simp [partB, mkBs_len]; omega
theorem partB_set {l : List Int} {k : Int} {i : Nat} (h : i < l.length) : (partB l k i).set i (bTr (mkB (k + (i : Nat)))) = partB l k (i + 1) := by
  unfold partB
  have h1 : ((mkBs i k).map bTr).length = i := by simp [mkBs_len]
  rw [List.set_append_right _ _ (by omega), h1, Nat.sub_self, List.drop_eq_getElem_cons h, List.map_cons, List.set_cons_zero]
  have h2 : mkBs (i + 1) k = mkBs i k ++ [mkB (k + (i : Nat))] := by simp [mkBs, List.range_succ]
  rw [h2, List.map_append, List.append_assoc]
  rfl
theorem partB_at {l : List Int} {k : Int} {i : Nat} {e : Int} (h : l[i]? = some e) : (partB l k i)[i]? = some (bTr e) := by
  unfold partB
  have h1 : ((mkBs i k).map bTr).length = i := by simp [mkBs_len]
  rw [List.getElem?_append_right (by omega), h1, Nat.sub_self, List.getElem?_map, List.getElem?_drop, Nat.add_zero, h]
  rfl
set_option maxHeartbeats 16000000 in
theorem markBs_tc (l : List Int) (k : Int) (h0 : 0 ≤ k) (hk : k + (l.length : Nat) ≤ 1099511627776) : TC Try.prog 19 [.c (.own 1 0 l.length), int k] [(1, .arr 5 1 (l.map bTr))] 2 (int (k + (l.length : Nat))) [(1, .arr 5 1 ((mkBs l.length k).map bTr))] 2 := by
  refine tc_intro Try.func19 rfl 20 rfl (Nat.le_of_ble_eq_true rfl) (by decide) [4] rfl dom1 ?_
  intro w0 E0
  have kOk := kB3
  refine wk ?_
  refine am_tidy [(1, 1)] [0, 1, 5] 2 rfl ?_
  refine go ?_
  refine am_loop (l.length + 1) ?_
  suffices key : ∀ (d i : Nat) (c : Int), i + d = l.length → c = k + (i : Nat) → amR Try.prog _ _ _ (d + 1) ⟨[(0, .c (.own 1 0 l.length)), (1, int c), (5, int (i : Nat))], [(1, .arr 5 1 (partB l k i))], 2⟩ from by
    have := key l.length 0 k (by simp) (by simp)
    rw [partB_zero] at this
    exact this
  intro d
  induction d with
  | zero =>
    intro i c hi hc
    refine amR_succ ?_
    refine wk ?_
    refine guardP_mk (fun h => ?_) (fun h => ?_)
    · simp at h; omega
    · refine go ?_
      refine wk ?_
      have hi' : i = l.length := hi
      subst hi'
      rw [partB_all]
      subst hc
      refine am_retB [(1, 1)] rfl ?_ ?_ rfl <;> first | refine go ?_ | rfl
  | succ d ih =>
    intro i c hi hc
    obtain ⟨e, he⟩ : ∃ e, l[i]? = some e := ⟨l[i]'(by omega), List.getElem?_eq_getElem (by omega)⟩
    have hat := partB_at (k := k) he
    have hset := partB_set (k := k) (show i < l.length by omega)
    rw [← hc] at hset
    have hlen := partB_len (k := k) (show i ≤ l.length by omega)
    have hp := (show (partB l k i)[i]? = some (bTr e) ∧ (partB l k i).set i (bTr (mkB c)) = partB l k (i + 1) ∧ (∀ r : List Tree, ((partB l k i).set i r)[i]? = some r) ∧ (∀ r s : List Tree, ((partB l k i).set i r).set i s = (partB l k i).set i s) ∧
        IntKind.i64.wrap ((i : Int) + 1) = ((i + 1 : Nat) : Int) ∧ (i < l.length) = True ∧ IntKind.i64.wrap (c + 1) = c + 1 from
      ⟨hat, hset, fun r => by rw [List.getElem?_set_self (by omega)], fun r s => by rw [List.set_set], by rw [wrapN (by omega) (by omega)]; rfl, eq_true (by omega), wrapN (by omega) (by omega)⟩)
    clear hat hset hlen
    simp only [bTr, mkB] at hp
    refine amR_succ ?_
    refine wk1 ?_
    refine guardP_mk (fun h => ?_) (fun h => ?_)
    · refine go1 ?_
      refine wk1 ?_
      refine amR_tidy [(1, 1)] [0, 1, 5] 2 rfl ?_
      refine go1 ?_
      exact ih (i + 1) _ (by omega) (by omega)
    · simp at h; omega
@[go_sem] theorem take_mapB {β : Type} (f : Int → β) (l : List Int) : (l.map f).take l.length = l.map f := List.take_of_length_le (by simp)
@[go_sem] theorem le_mapB {β : Type} (f : Int → β) (l : List Int) : (l.length ≤ (l.map f).length) = True := by simp
@[go_sem] theorem take_mkB {β : Type} (f : Int → β) (n : Nat) (k : Int) : ((mkBs n k).map f).take n = (mkBs n k).map f := List.take_of_length_le (by simp [mkBs_len])
@[go_sem] theorem le_mkB {β : Type} (f : Int → β) (n : Nat) (k : Int) : (n ≤ ((mkBs n k).map f).length) = True := by simp [mkBs_len]
@[go_sem] theorem mkB_self (n : Nat) (k : Int) : (mkBs n k = mkBs (mkBs n k).length k) = True := by simp [mkBs_len]
set_option maxHeartbeats 16000000 in
theorem heldBs_tc (n : Nat) (k : Int) (h0 : 0 ≤ k) (hk : k + (n : Nat) ≤ 1099511627776) : TC Try.prog 137 [ro 1 ((mkBs n k).map bTr), int k] [] 1 (int (k + (n : Nat))) [] 1 := by
  refine tc_intro Try.func137 rfl 22 rfl (Nat.le_of_ble_eq_true rfl) (by decide) [4] rfl (by intro id x h; cases h) ?_
  intro w0 E0
  have kOk := kB3
  refine wk ?_
  refine am_tidy [] [0, 1, 5] 1 rfl ?_
  refine go ?_
  refine am_loop (n + 1) ?_
  suffices key : ∀ (d i : Nat) (c : Int), i + d = n → c = k + (i : Nat) → amR Try.prog _ _ _ (d + 1) ⟨[(0, ro 1 ((mkBs n k).map bTr)), (1, int c), (5, int (i : Nat))], [], 1⟩ from key n 0 k (by simp) (by simp)
  intro d
  induction d with
  | zero =>
    intro i c hi hc
    have hp : ((mkBs n k).map bTr).length = n := by simp [mkBs_len]
    refine amR_succ ?_
    refine wk1 ?_
    refine guardP_mk (fun h => ?_) (fun h => ?_)
    · simp at h; omega
    · refine go1 ?_
      refine wk1 ?_
      have hi' : i = n := hi
      subst hi'
      subst hc
      refine am_retP rfl ?_ rfl
      first | refine go ?_ | rfl
  | succ d ih =>
    intro i c hi hc
    have hat : ((mkBs n k).map bTr)[i]? = some (bTr (mkB c)) := by rw [List.getElem?_map, mkBs_get k (by omega), hc]; rfl
    have hp := (show ((mkBs n k).map bTr).length = n ∧ ((mkBs n k).map bTr)[i]? = some (bTr (mkB c)) ∧
        IntKind.i64.wrap ((i : Int) + 1) = ((i + 1 : Nat) : Int) ∧ (∀ x : Int, (x != x) = false) ∧ IntKind.i64.wrap (c + 1) = c + 1 from
      ⟨by simp [mkBs_len], hat, by rw [wrapN (by omega) (by omega)]; rfl, fun x => by simp, wrapN (by omega) (by omega)⟩)
    clear hat
    simp only [bTr, mkB] at hp
    refine amR_succ ?_
    refine wk1 ?_
    refine guardP_mk (fun h => ?_) (fun h => ?_)
    · refine go1 ?_
      refine wk1 ?_
      refine amR_tidy [] [0, 1, 5] 1 rfl ?_
      refine go1 ?_
      exact ih (i + 1) _ (by omega) (by omega)
    · simp at h; omega
def mkI (c : Int) : Int := c
def mkIs (n : Nat) (k : Int) : List Int := (List.range n).map fun i => mkI (k + (i : Nat))
theorem mkIs_len (n : Nat) (k : Int) : (mkIs n k).length = n := by simp [mkIs]
theorem mkIs_get {n i : Nat} (k : Int) (h : i < n) : (mkIs n k)[i]? = some (mkI (k + (i : Nat))) := by simp [mkIs, h]
def partI (l : List Int) (k : Int) (i : Nat) : List (List Tree) := (mkIs i k).map iTr ++ (l.drop i).map iTr
theorem partI_zero {l : List Int} {k : Int} : partI l k 0 = l.map iTr := by simp [partI, mkIs]
theorem partI_all {l : List Int} {k : Int} : partI l k l.length = (mkIs l.length k).map iTr := by simp [partI]
theorem partI_len {l : List Int} {k : Int} {i : Nat} (h : i ≤ l.length) : (partI l k i).length = l.length := by simp [partI, mkIs_len]; omega
theorem partI_set {l : List Int} {k : Int} {i : Nat} (h : i < l.length) : (partI l k i).set i (iTr (mkI (k + (i : Nat)))) = partI l k (i + 1) := by
  unfold partI
  have h1 : ((mkIs i k).map iTr).length = i := by simp [mkIs_len]
  rw [List.set_append_right _ _ (by omega), h1, Nat.sub_self, List.drop_eq_getElem_cons h, List.map_cons, List.set_cons_zero]
  have h2 : mkIs (i + 1) k = mkIs i k ++ [mkI (k + (i : Nat))] := by simp [mkIs, List.range_succ]
  rw [h2, List.map_append, List.append_assoc]
  rfl
theorem partI_at {l : List Int} {k : Int} {i : Nat} {e : Int} (h : l[i]? = some e) : (partI l k i)[i]? = some (iTr e) := by
  unfold partI
  have h1 : ((mkIs i k).map iTr).length = i := by simp [mkIs_len]
  rw [List.getElem?_append_right (by omega), h1, Nat.sub_self, List.getElem?_map, List.getElem?_drop, Nat.add_zero, h]
  rfl
set_option maxHeartbeats 16000000 in
theorem markIs_tc (l : List Int) (k : Int) (h0 : 0 ≤ k) (hk : k + (l.length : Nat) ≤ 1099511627776) : TC Try.prog 78 [.c (.own 1 0 l.length), int k] [(1, .arr 3 1 (l.map iTr))] 2 (int (k + (l.length : Nat))) [(1, .arr 3 1 ((mkIs l.length k).map iTr))] 2 := by
  refine tc_intro Try.func78 rfl 19 rfl (Nat.le_of_ble_eq_true rfl) (by decide) [4] rfl dom1 ?_
  intro w0 E0
  have kOk := kB3
  refine wk ?_
  refine am_tidy [(1, 1)] [0, 1, 5] 2 rfl ?_
  refine go ?_
  refine am_loop (l.length + 1) ?_
  suffices key : ∀ (d i : Nat) (c : Int), i + d = l.length → c = k + (i : Nat) → amR Try.prog _ _ _ (d + 1) ⟨[(0, .c (.own 1 0 l.length)), (1, int c), (5, int (i : Nat))], [(1, .arr 3 1 (partI l k i))], 2⟩ from by
    have := key l.length 0 k (by simp) (by simp)
    rw [partI_zero] at this
    exact this
  intro d
  induction d with
  | zero =>
    intro i c hi hc
    refine amR_succ ?_
    refine wk ?_
    refine guardP_mk (fun h => ?_) (fun h => ?_)
    · simp at h; omega
    · refine go ?_
      refine wk ?_
      have hi' : i = l.length := hi
      subst hi'
      rw [partI_all]
      subst hc
      refine am_retB [(1, 1)] rfl ?_ ?_ rfl <;> first | refine go ?_ | rfl
  | succ d ih =>
    intro i c hi hc
    obtain ⟨e, he⟩ : ∃ e, l[i]? = some e := ⟨l[i]'(by omega), List.getElem?_eq_getElem (by omega)⟩
    have hat := partI_at (k := k) he
    have hset := partI_set (k := k) (show i < l.length by omega)
    rw [← hc] at hset
    have hlen := partI_len (k := k) (show i ≤ l.length by omega)
    have hp := (show (partI l k i)[i]? = some (iTr e) ∧ (partI l k i).set i (iTr (mkI c)) = partI l k (i + 1) ∧ (∀ r : List Tree, ((partI l k i).set i r)[i]? = some r) ∧ (∀ r s : List Tree, ((partI l k i).set i r).set i s = (partI l k i).set i s) ∧
        IntKind.i64.wrap ((i : Int) + 1) = ((i + 1 : Nat) : Int) ∧ (i < l.length) = True ∧ IntKind.i64.wrap (c + 1) = c + 1 from
      ⟨hat, hset, fun r => by rw [List.getElem?_set_self (by omega)], fun r s => by rw [List.set_set], by rw [wrapN (by omega) (by omega)]; rfl, eq_true (by omega), wrapN (by omega) (by omega)⟩)
    clear hat hset hlen
    simp only [iTr, mkI] at hp
    refine amR_succ ?_
    refine wk1 ?_
    refine guardP_mk (fun h => ?_) (fun h => ?_)
    · refine go1 ?_
      refine wk1 ?_
      refine amR_tidy [(1, 1)] [0, 1, 5] 2 rfl ?_
      refine go1 ?_
      exact ih (i + 1) _ (by omega) (by omega)
    · simp at h; omega
@[go_sem] theorem take_mkI {β : Type} (f : Int → β) (n : Nat) (k : Int) : ((mkIs n k).map f).take n = (mkIs n k).map f := List.take_of_length_le (by simp [mkIs_len])
@[go_sem] theorem le_mkI {β : Type} (f : Int → β) (n : Nat) (k : Int) : (n ≤ ((mkIs n k).map f).length) = True := by simp [mkIs_len]
@[go_sem] theorem mkI_self (n : Nat) (k : Int) : (mkIs n k = mkIs (mkIs n k).length k) = True := by simp [mkIs_len]
set_option maxHeartbeats 16000000 in
theorem heldIs_tc (n : Nat) (k : Int) (h0 : 0 ≤ k) (hk : k + (n : Nat) ≤ 1099511627776) : TC Try.prog 90 [ro 1 ((mkIs n k).map iTr), int k] [] 1 (int (k + (n : Nat))) [] 1 := by
  refine tc_intro Try.func90 rfl 21 rfl (Nat.le_of_ble_eq_true rfl) (by decide) [4] rfl (by intro id x h; cases h) ?_
  intro w0 E0
  have kOk := kB3
  refine wk ?_
  refine am_tidy [] [0, 1, 5] 1 rfl ?_
  refine go ?_
  refine am_loop (n + 1) ?_
  suffices key : ∀ (d i : Nat) (c : Int), i + d = n → c = k + (i : Nat) → amR Try.prog _ _ _ (d + 1) ⟨[(0, ro 1 ((mkIs n k).map iTr)), (1, int c), (5, int (i : Nat))], [], 1⟩ from key n 0 k (by simp) (by simp)
  intro d
  induction d with
  | zero =>
    intro i c hi hc
    have hp : ((mkIs n k).map iTr).length = n := by simp [mkIs_len]
    refine amR_succ ?_
    refine wk1 ?_
    refine guardP_mk (fun h => ?_) (fun h => ?_)
    · simp at h; omega
    · refine go1 ?_
      refine wk1 ?_
      have hi' : i = n := hi
      subst hi'
      subst hc
      refine am_retP rfl ?_ rfl
      first | refine go ?_ | rfl
  | succ d ih =>
    intro i c hi hc
    have hat : ((mkIs n k).map iTr)[i]? = some (iTr (mkI c)) := by rw [List.getElem?_map, mkIs_get k (by omega), hc]; rfl
    have hp := (show ((mkIs n k).map iTr).length = n ∧ ((mkIs n k).map iTr)[i]? = some (iTr (mkI c)) ∧
        IntKind.i64.wrap ((i : Int) + 1) = ((i + 1 : Nat) : Int) ∧ (∀ x : Int, (x != x) = false) ∧ IntKind.i64.wrap (c + 1) = c + 1 from
      ⟨by simp [mkIs_len], hat, by rw [wrapN (by omega) (by omega)]; rfl, fun x => by simp, wrapN (by omega) (by omega)⟩)
    clear hat
    simp only [iTr, mkI] at hp
    refine amR_succ ?_
    refine wk1 ?_
    refine guardP_mk (fun h => ?_) (fun h => ?_)
    · refine go1 ?_
      refine wk1 ?_
      refine amR_tidy [] [0, 1, 5] 1 rfl ?_
      refine go1 ?_
      exact ih (i + 1) _ (by omega) (by omega)
    · simp at h; omega
section
variable {P : Program} {C : Ctx} {Q : Exit → St → Prop} {st : St} {Γ : Nat → Option Row} {K : St → Prop} {o : Oper}
/-- A row that came in, compared with nil: an empty one may be nil. -/
theorem amOp_eqNilR (hΓ : TabOk P Γ) {t yt e : TypeId} {q : Row} {x y : Operand} {sz : Nat} {xs : List (List Tree)} (ho : o.op = .binOp .eql t x y yt) (ht : elemT Γ t = some (e, q)) (hx : st.eval x = .c (.t (.sl sz xs))) (hy : st.eval y = lit (.slice none 0 0))
    (hd : dstOk C.n o = true) (hK : ∀ b, (b = true → xs = []) → K (st.put o.dst (lit (.bool b)))) : amOp P C o Q K st := by
  intro a w ⟨E, hr⟩ next hn
  obtain ⟨hu, _⟩ := elemT_ok hΓ ht
  have hxx := hr.eval x
  rw [hx] at hxx
  have hye : a.eval y = .slice none 0 0 := hr.lit hy
  have key : ∃ b, (b = true → xs = []) ∧ (execOp a.eval o).run P w = .ok (.value (.bool b)) w := by
    have h5 : RO w (fun b o => E.own b o = none) (a.eval x) (.sl sz xs) := rtC hxx
    generalize hvx : a.eval x = vx at h5
    cases h5 with
    | sl ad cap sz xs g off f hcap hmax hsz ha hc ht =>
      cases ad with
      | none =>
        refine ⟨true, fun _ => ?_, ?_⟩
        · by_cases hne : xs = []
          · exact hne
          · cases ha hne
        · unfold execOp
          simp only [ho, hvx, hye]
          simp [eqGuard, binOp, Op.equal, Op.maxDepth, run_equalIn_slice_nil w 9999 t e none xs.length cap hu]
      | some ad =>
        refine ⟨false, (fun h => by cases h), ?_⟩
        unfold execOp
        simp only [ho, hvx, hye]
        simp [eqGuard, binOp, Op.equal, Op.maxDepth, run_equalIn_slice_nil w 9999 t e _ _ _ hu]
  obtain ⟨b, hb, hrun⟩ := key
  unfold Oper.wp
  rw [hrun]
  exact hn _ _ ⟨_, hK b hb, E, hr.put (x := lit (.bool b)) (.v _ rfl) (dstOk_lt hd)⟩
end
set_option maxHeartbeats 8000000 in
theorem cloneBs_tc (l : List Int) (hl : l.length ≤ 1073741824) : TC Try.prog 74 [ro 1 (l.map bTr)] [] 1 (.c (.own 1 0 l.length)) [(1, .arr 5 1 (l.map bTr))] 2 := by
  refine tc_intro Try.func74 rfl 8 rfl (Nat.le_of_ble_eq_true rfl) (by decide) [2] rfl (by intro id x h; cases h) ?_
  intro w0 E0
  have kOk := kB3
  refine wk ?_
  refine am_rs tabOk kOk rfl fun K Q1 hK => ?_
  refine go ?_
  refine amOp_eqNilR tabOk rfl rfl rfl rfl rfl fun b hb => ?_
  refine hK _ ?_
  clear hK K Q1
  cases b with
  | true =>
    have hb2 := hb rfl
    obtain rfl : l = [] := by simpa using hb2
    refine go ?_
    refine wk ?_
    refine am_ownNil 2 5 1 rfl ?_
    refine go ?_
    refine am_retB [(1, 1)] rfl ?_ ?_ rfl <;> first | refine go ?_ | rfl
  | false =>
    refine go ?_
    have hp := (show (l.length ≤ maxLen) = True ∧ (l.length * 1 ≤ 140737488355328) = True from ⟨eq_true (by unfold maxLen; omega), eq_true (by omega)⟩)
    refine wk1 ?_
    refine am_retB [(2, 1)] rfl ?_ ?_ rfl <;> first | refine go ?_ | rfl
set_option maxHeartbeats 8000000 in
theorem cloneIs_tc (l : List Int) (hl : l.length ≤ 1073741824) : TC Try.prog 135 [ro 1 (l.map iTr)] [] 1 (.c (.own 1 0 l.length)) [(1, .arr 3 1 (l.map iTr))] 2 := by
  refine tc_intro Try.func135 rfl 8 rfl (Nat.le_of_ble_eq_true rfl) (by decide) [2] rfl (by intro id x h; cases h) ?_
  intro w0 E0
  have kOk := kB3
  refine wk ?_
  refine am_rs tabOk kOk rfl fun K Q1 hK => ?_
  refine go ?_
  refine amOp_eqNilR tabOk rfl rfl rfl rfl rfl fun b hb => ?_
  refine hK _ ?_
  clear hK K Q1
  cases b with
  | true =>
    have hb2 := hb rfl
    obtain rfl : l = [] := by simpa using hb2
    refine go ?_
    refine wk ?_
    refine am_ownNil 2 3 1 rfl ?_
    refine go ?_
    refine am_retB [(1, 1)] rfl ?_ ?_ rfl <;> first | refine go ?_ | rfl
  | false =>
    refine go ?_
    have hp := (show (l.length ≤ maxLen) = True ∧ (l.length * 8 ≤ 140737488355328) = True from ⟨eq_true (by unfold maxLen; omega), eq_true (by omega)⟩)
    refine wk1 ?_
    refine am_retB [(2, 1)] rfl ?_ ?_ rfl <;> first | refine go ?_ | rfl
theorem copyS_tc (l : List Int) (hl : l.length ≤ 1073741824) : TC Try.prog 67 [ro 1 (l.map bTr)] [] 1 (.c (.own 1 0 l.length)) [(1, .arr 5 1 (l.map bTr))] 2 := by
  refine tc_intro Try.func67 rfl 20 rfl (Nat.le_of_ble_eq_true rfl) (by decide) [2] rfl (by intro id x h; cases h) ?_
  intro w0 E0
  have kOk := kB3
  refine wk ?_
  refine am_tidy [(1, 1)] [0, 3, 4] 2 rfl ?_
  refine go ?_
  refine am_loop (l.length + 1) ?_
  suffices key : ∀ (d k : Nat) (X : List Int), k + d = l.length → X ++ l.drop k = l → X.length = k → amR Try.prog _ _ _ (d + 1) ⟨[(0, ro 1 (l.map bTr)), (3, .c (.own 1 0 X.length)), (4, int (k : Nat))], [(1, .arr 5 1 (X.map bTr))], 2⟩ from key l.length 0 [] (by simp) (by simp) (by simp)
  intro d
  induction d with
  | zero =>
    intro k X hk hX hXl
    rw [List.drop_eq_nil_of_le (by omega), List.append_nil] at hX
    subst hX
    have hp := (show ((k : Int) < (X.length : Int)) = False from eq_false (by omega))
    refine amR_succ ?_
    refine wk1 ?_
    refine am_retB [(1, 1)] rfl ?_ ?_ rfl <;> first | refine go ?_ | rfl
  | succ d ih =>
    intro k X hk hX hXl
    obtain ⟨e, he⟩ : ∃ e, l[k]? = some e := ⟨l[k]'(by omega), List.getElem?_eq_getElem (by omega)⟩
    have hX2 : (X ++ [e]) ++ l.drop (k + 1) = l := by
      have hi := (List.getElem?_eq_some_iff.1 he).1
      have e2 : l[k] = e := by rw [List.getElem?_eq_getElem hi] at he; exact Option.some.inj he
      rw [List.drop_eq_getElem_cons hi, e2] at hX
      rw [List.append_assoc]
      exact hX
    have ihk := ih (k + 1) (X ++ [e]) (by omega) hX2 (by simp [hXl])
    have hp := (show ((k : Int) < (l.length : Int)) = True ∧ (k < l.length) = True ∧ (l.map bTr)[k]? = some [.v (.int .u8 e)] ∧ IntKind.i64.wrap ((k : Int) + 1) = ((k + 1 : Nat) : Int) ∧ (X.length + 1 ≤ maxLen) = True ∧ ((X.length + 1) * 1 ≤ 140737488355328) = True from
      ⟨eq_true (by omega), eq_true (by omega), by rw [List.getElem?_map, he]; rfl, by rw [wrapN (by omega) (by omega)]; rfl, eq_true (by unfold maxLen; omega), eq_true (by omega)⟩)
    clear ih
    refine amR_succ ?_
    refine wk1 ?_
    refine amR_tidy [(3, 1)] [0, 3, 4] 2 rfl ?_
    refine go1 ?_
    refine amR_st ?_ ihk
    simp [bTr]
set_option maxHeartbeats 8000000 in
theorem toBys_tc (l : List Int) (hl : l.length ≤ 1048576) : TC Try.prog 13 [ro 1 (l.map bTr)] [] 1 (.c (.own 1 0 l.length)) [(1, .arr 5 1 (l.map bTr))] 2 := by
  refine tc_intro Try.func13 rfl 22 rfl (Nat.le_of_ble_eq_true rfl) (by decide) [2] rfl (by intro id x h; cases h) ?_
  intro w0 E0
  have kOk := kB3
  have hp : (l.map bTr).length = l.length := by simp
  refine wk1 ?_
  refine am_rs tabOk kOk rfl fun K Q1 hK => ?_
  refine go1 ?_
  refine ⟨⟨by omega, by unfold maxLen; omega⟩, ?_⟩
  refine hK _ ?_
  clear hK K Q1
  refine wk1 ?_
  refine am_tidy [(1, 1)] [0, 3, 4] 2 rfl ?_
  refine go1 ?_
  clear hp
  refine am_loop (l.length + 1) ?_
  suffices key : ∀ (d k : Nat), k + d = l.length → amR Try.prog _ _ _ (d + 1) ⟨[(0, ro 1 (l.map bTr)), (3, .c (.own 1 0 l.length)), (4, int (k : Nat))], [(1, .arr 5 1 (half bTr [Tree.v (Value.int IntKind.u8 0)] l k))], 2⟩ from by
    have := key l.length 0 (by simp)
    rw [half_zero] at this
    exact this
  intro d
  induction d with
  | zero =>
    intro k hk
    have hp : (l.map bTr).length = l.length := by simp
    refine amR_succ ?_
    refine wk1 ?_
    refine guardP_mk (fun h => ?_) (fun h => ?_)
    · simp at h; omega
    · refine go1 ?_
      refine wk1 ?_
      have hk' : k = l.length := hk
      subst hk'
      rw [half_all]
      refine am_retB [(1, 1)] rfl ?_ ?_ rfl <;> first | refine go ?_ | rfl
  | succ d ih =>
    intro k hk
    obtain ⟨e, he⟩ : ∃ e, l[k]? = some e := ⟨l[k]'(by omega), List.getElem?_eq_getElem (by omega)⟩
    have hp := (show (l.map bTr).length = l.length ∧ (l.map bTr)[k]? = some (bTr e) ∧ (half bTr [Tree.v (Value.int IntKind.u8 0)] l k)[k]? = some [Tree.v (Value.int IntKind.u8 0)] ∧ IntKind.i64.wrap ((k : Int) + 1) = ((k + 1 : Nat) : Int) ∧ (k < l.length) = True ∧ (half bTr [Tree.v (Value.int IntKind.u8 0)] l k).set k (bTr e) = half bTr [Tree.v (Value.int IntKind.u8 0)] l (k + 1) from
      ⟨by simp, by rw [List.getElem?_map, he]; rfl, half_at (by omega), by rw [wrapN (by omega) (by omega)]; rfl, eq_true (by omega), half_set he⟩)
    obtain e := e
    simp only [bTr] at hp
    refine amR_succ ?_
    refine wk1 ?_
    refine guardP_mk (fun h => ?_) (fun h => ?_)
    · refine go1 ?_
      refine wk1 ?_
      refine amR_tidy [(1, 1)] [0, 3, 4] 2 rfl ?_
      refine go1 ?_
      exact ih (k + 1) (by omega)
    · simp at h; omega
theorem szBys_tc (l : List Int) (left : Int) (hl : l.length ≤ maxLen) : TC Try.prog 161 [ro 1 (l.map bTr), int left] [] 1 (int (lft left l.length)) [] 1 := by
  refine tc_intro Try.func161 rfl 12 rfl (Nat.le_of_ble_eq_true rfl) (by decide) [4] rfl (by intro id x h; cases h) ?_
  intro w0 E0
  have kOk := kB3
  repeat' (fail_if_success (with_reducible apply amR_id)); first
    | (refine guardP_mk (fun h => ?_) (fun h => ?_) <;> (refine go ?_; try simp only [decide_eq_true_eq, decide_eq_false_iff_not, Bool.not_true, Bool.not_false, Bool.not_eq_true', Bool.not_eq_false', beq_iff_eq, bne_iff_ne, beq_eq_false_iff_ne, bne_eq_false_iff_eq, ne_eq, Bool.false_eq_true, reduceCtorEq] at h))
    | (refine hK _ ?_; clear hK K Q1)
    | (refine ⟨by first | omega | (simp only [List.length_map, List.length_append, List.length_cons, List.length_nil, List.length_replicate, List.length_drop, List.length_take]; omega), by unfold maxLen; first | omega | (simp only [List.length_map, List.length_append, List.length_cons, List.length_nil, List.length_replicate, List.length_drop, List.length_take]; omega), ?_⟩)
    | (refine hK _ _ rfl ?_; clear hK K; try refine go ?_)
    | (refine am_retP rfl ?_ rfl; first | refine go ?_ | rfl)
    | (refine am_retC [] rfl ?_ rfl rfl; first | refine go ?_ | rfl)
    | (refine wkp ?_)
    | (refine am_rs tabOk kOk rfl fun K Q1 hK => ?_; refine go ?_)
    | (refine am_reg tabOk kOk rfl fun K Q1 hK => ?_; refine go ?_)
    | (refine am_ds mixed tabOk kOk rfl rfl fun K hK => ?_; refine go ?_)
    | (refine am_dreg mixed tabOk kOk rfl rfl fun K hK => ?_; refine go ?_)
  all_goals (simp only [lft]; simp (disch := omega) only [if_pos, if_neg]; try rfl)
def szIs (l : List Int) (left : Int) : Int := if IntKind.i64.wrap (left - l.length) < 0 then -1 else IntKind.i64.wrap (left - l.length)
theorem szIs_tc (l : List Int) (left : Int) : TC Try.prog 61 [ro 1 (l.map iTr), int left] [] 1 (int (szIs l left)) [] 1 := by
  refine tc_intro Try.func61 rfl 12 rfl (Nat.le_of_ble_eq_true rfl) (by decide) [4] rfl (by intro id x h; cases h) ?_
  intro w0 E0
  have kOk := kB3
  have hp : (l.map iTr).length = l.length := by simp
  repeat' (fail_if_success (with_reducible apply amR_id)); first
    | (refine guardP_mk (fun h => ?_) (fun h => ?_) <;> (refine go1 ?_; try simp only [decide_eq_true_eq, decide_eq_false_iff_not, Bool.not_true, Bool.not_false, Bool.not_eq_true', Bool.not_eq_false', beq_iff_eq, bne_iff_ne, beq_eq_false_iff_ne, bne_eq_false_iff_eq, ne_eq, Bool.false_eq_true, reduceCtorEq] at h))
    | (refine hK _ ?_; clear hK K Q1)
    | (refine ⟨by first | omega | (simp only [List.length_map, List.length_append, List.length_cons, List.length_nil, List.length_replicate, List.length_drop, List.length_take]; omega), by unfold maxLen; first | omega | (simp only [List.length_map, List.length_append, List.length_cons, List.length_nil, List.length_replicate, List.length_drop, List.length_take]; omega), ?_⟩)
    | (refine hK _ _ rfl ?_; clear hK K; try refine go1 ?_)
    | (refine am_retP rfl ?_ rfl; first | refine go ?_ | rfl)
    | (refine am_retC [] rfl ?_ rfl rfl; first | refine go ?_ | rfl)
    | (refine wkq ?_)
    | (refine am_rs tabOk kOk rfl fun K Q1 hK => ?_; refine go1 ?_)
    | (refine am_reg tabOk kOk rfl fun K Q1 hK => ?_; refine go1 ?_)
    | (refine am_ds mixed tabOk kOk rfl rfl fun K hK => ?_; refine go1 ?_)
    | (refine am_dreg mixed tabOk kOk rfl rfl fun K hK => ?_; refine go1 ?_)
  all_goals (simp only [szIs]; simp (disch := omega) only [if_pos, if_neg]; try rfl)
def kd0_0_1 (n : Int) (l : List Int) : Option TV := if l.length ≤ maxLen then some (int (lft n l.length)) else none
def kd0_0_0 (n : Int) (r0 : List (List Tree)) : Option TV := (unBys r0).bind (kd0_0_1 n)
def kd0_0 : List TV → Option TV
  | [.c (.t (.sl 1 r0)), .c (.t (.v (.int .i64 n)))] => kd0_0_0 n r0
  | _ => none
def kd0_1_1 (n : Int) (l : List Int) : Option TV := some (int (szIs l n))
def kd0_1_0 (n : Int) (r0 : List (List Tree)) : Option TV := (unInts r0).bind (kd0_1_1 n)
def kd0_1 : List TV → Option TV
  | [.c (.t (.sl 1 r0)), .c (.t (.v (.int .i64 n)))] => kd0_1_0 n r0
  | _ => none
def kd0_2_2 (a : List Int) (b : List Int) : Option TV := if a.length ≤ 1048576 then some (bool (decide (a = b))) else none
def kd0_2_1 (r1 : List (List Tree)) (a : List Int) : Option TV := (unBys r1).bind (kd0_2_2 a)
def kd0_2_0 (r0 : List (List Tree)) (r1 : List (List Tree)) : Option TV := (unBys r0).bind (kd0_2_1 r1)
def kd0_2 : List TV → Option TV
  | [.c (.t (.sl 1 r0)), .c (.t (.sl 1 r1))] => kd0_2_0 r0 r1
  | _ => none
def kd0_3_2 (l : List Int) (r : List Int) : Option TV := if l.length ≤ 1048576 then some (bool (decide (l = r))) else none
def kd0_3_1 (r1 : List (List Tree)) (l : List Int) : Option TV := (unInts r1).bind (kd0_3_2 l)
def kd0_3_0 (r0 : List (List Tree)) (r1 : List (List Tree)) : Option TV := (unInts r0).bind (kd0_3_1 r1)
def kd0_3 : List TV → Option TV
  | [.c (.t (.sl 1 r0)), .c (.t (.sl 1 r1))] => kd0_3_0 r0 r1
  | _ => none
def kd0_4_1 (k : Int) (a : List Int) : Option TV := if a = mkBs a.length k ∧ 0 ≤ k ∧ k + (a.length : Nat) ≤ 1099511627776 then some (int (k + (a.length : Nat))) else none
def kd0_4_0 (k : Int) (r0 : List (List Tree)) : Option TV := (unBys r0).bind (kd0_4_1 k)
def kd0_4 : List TV → Option TV
  | [.c (.t (.sl 1 r0)), .c (.t (.v (.int .i64 k)))] => kd0_4_0 k r0
  | _ => none
def kd0_5_1 (k : Int) (a : List Int) : Option TV := if a = mkIs a.length k ∧ 0 ≤ k ∧ k + (a.length : Nat) ≤ 1099511627776 then some (int (k + (a.length : Nat))) else none
def kd0_5_0 (k : Int) (r0 : List (List Tree)) : Option TV := (unInts r0).bind (kd0_5_1 k)
def kd0_5 : List TV → Option TV
  | [.c (.t (.sl 1 r0)), .c (.t (.v (.int .i64 k)))] => kd0_5_0 k r0
  | _ => none
def kd0_call (f : FuncId) (args : List TV) : Option TV := if f = 161 then orO (kd0_0 args) (kb3.call f args) else if f = 61 then orO (kd0_1 args) (kb3.call f args) else if f = 17 then orO (kd0_2 args) (kb3.call f args) else if f = 76 then orO (kd0_3 args) (kb3.call f args) else if f = 137 then orO (kd0_4 args) (kb3.call f args) else if f = 90 then orO (kd0_5 args) (kb3.call f args) else kb3.call f args
def kd0 : Kn := { call := kd0_call, eqs := eqTys, callB := kb3.callB }
attribute [go_sem] kd0_0_0 kd0_0_1 kd0_0 kd0_1_0 kd0_1_1 kd0_1 kd0_2_0 kd0_2_1 kd0_2_2 kd0_2 kd0_3_0 kd0_3_1 kd0_3_2 kd0_3 kd0_4_0 kd0_4_1 kd0_4 kd0_5_0 kd0_5_1 kd0_5 kd0_call kd0
theorem kd0_ok : ∀ f args res, kd0_call f args = some res → TC Try.prog f args [] 1 res [] 1 := by
  intro f args res h
  unfold kd0_call at h
  split at h
  · rename_i e; subst e
    have hh := orO_elim h
    clear h
    rcases hh with h | h
    rotate_left
    · exact kB3.call _ _ _ h
    unfold kd0_0 at h
    split at h
    · rename_i r0 n; unfold kd0_0_0 at h
      obtain ⟨l, e0, h⟩ := Option.bind_eq_some_iff.1 h
      unfold kd0_0_1 at h
      split at h
      · rename_i hc; cases h; rw [unBys_ok e0]; exact szBys_tc l n hc
      · cases h
    · cases h
  split at h
  · rename_i e; subst e
    have hh := orO_elim h
    clear h
    rcases hh with h | h
    rotate_left
    · exact kB3.call _ _ _ h
    unfold kd0_1 at h
    split at h
    · rename_i r0 n; unfold kd0_1_0 at h
      obtain ⟨l, e0, h⟩ := Option.bind_eq_some_iff.1 h
      unfold kd0_1_1 at h
      cases h; rw [unInts_ok e0]; exact szIs_tc l n
    · cases h
  split at h
  · rename_i e; subst e
    have hh := orO_elim h
    clear h
    rcases hh with h | h
    rotate_left
    · exact kB3.call _ _ _ h
    unfold kd0_2 at h
    split at h
    · rename_i r0 r1; unfold kd0_2_0 at h
      obtain ⟨a, e0, h⟩ := Option.bind_eq_some_iff.1 h
      unfold kd0_2_1 at h
      obtain ⟨b, e1, h⟩ := Option.bind_eq_some_iff.1 h
      unfold kd0_2_2 at h
      split at h
      · rename_i hc; cases h; rw [unBys_ok e0, unBys_ok e1]; exact eqBys_tc a b hc
      · cases h
    · cases h
  split at h
  · rename_i e; subst e
    have hh := orO_elim h
    clear h
    rcases hh with h | h
    rotate_left
    · exact kB3.call _ _ _ h
    unfold kd0_3 at h
    split at h
    · rename_i r0 r1; unfold kd0_3_0 at h
      obtain ⟨l, e0, h⟩ := Option.bind_eq_some_iff.1 h
      unfold kd0_3_1 at h
      obtain ⟨r, e1, h⟩ := Option.bind_eq_some_iff.1 h
      unfold kd0_3_2 at h
      split at h
      · rename_i hc; cases h; rw [unInts_ok e0, unInts_ok e1]; exact eqInts_tc l r hc
      · cases h
    · cases h
  split at h
  · rename_i e; subst e
    have hh := orO_elim h
    clear h
    rcases hh with h | h
    rotate_left
    · exact kB3.call _ _ _ h
    unfold kd0_4 at h
    split at h
    · rename_i r0 k; unfold kd0_4_0 at h
      obtain ⟨a, e0, h⟩ := Option.bind_eq_some_iff.1 h
      unfold kd0_4_1 at h
      split at h
      · rename_i hc; cases h; rw [unBys_ok e0]; exact (by rw [hc.1, mkBs_len]; exact heldBs_tc a.length k hc.2.1 hc.2.2)
      · cases h
    · cases h
  split at h
  · rename_i e; subst e
    have hh := orO_elim h
    clear h
    rcases hh with h | h
    rotate_left
    · exact kB3.call _ _ _ h
    unfold kd0_5 at h
    split at h
    · rename_i r0 k; unfold kd0_5_0 at h
      obtain ⟨a, e0, h⟩ := Option.bind_eq_some_iff.1 h
      unfold kd0_5_1 at h
      split at h
      · rename_i hc; cases h; rw [unInts_ok e0]; exact (by rw [hc.1, mkIs_len]; exact heldIs_tc a.length k hc.2.1 hc.2.2)
      · cases h
    · cases h
  · exact kB3.call f args res h
theorem kD0 : KnOk Try.prog kd0 := ⟨kd0_ok, eqTysOk, kB3.callB⟩
def kd1_0_1 (n : Nat) (k : Int) (l : List Int) : CB := if n = l.length ∧ 0 ≤ k ∧ k + (l.length : Nat) ≤ 1099511627776 then some (int (k + (l.length : Nat)), [(1, .arr 5 1 ((mkBs l.length k).map bTr))], 2) else none
def kd1_0_0 (n : Nat) (k : Int) (r0 : List (List Tree)) : CB := (unBys r0).bind (kd1_0_1 n k)
def kd1_0 : List TV → List (Nat × AObj) → CB
  | [.c (.own 1 0 n), .c (.t (.v (.int .i64 k)))], [(1, .arr 5 1 r0)] => kd1_0_0 n k r0
  | _, _ => none
def kd1_1_1 (n : Nat) (k : Int) (l : List Int) : CB := if n = l.length ∧ 0 ≤ k ∧ k + (l.length : Nat) ≤ 1099511627776 then some (int (k + (l.length : Nat)), [(1, .arr 3 1 ((mkIs l.length k).map iTr))], 2) else none
def kd1_1_0 (n : Nat) (k : Int) (r0 : List (List Tree)) : CB := (unInts r0).bind (kd1_1_1 n k)
def kd1_1 : List TV → List (Nat × AObj) → CB
  | [.c (.own 1 0 n), .c (.t (.v (.int .i64 k)))], [(1, .arr 3 1 r0)] => kd1_1_0 n k r0
  | _, _ => none
def kd1_2_1 (l : List Int) : CB := if l.length ≤ 1048576 then some (.c (.own 1 0 l.length), [(1, .arr 5 1 (l.map bTr))], 2) else none
def kd1_2_0 (r0 : List (List Tree)) : CB := (unBys r0).bind (kd1_2_1)
def kd1_2 : List TV → List (Nat × AObj) → CB
  | [.c (.t (.sl 1 r0))], [] => kd1_2_0 r0
  | _, _ => none
def kd1_3_1 (l : List Int) : CB := if l.length ≤ 1048576 then some (.c (.own 1 0 l.length), [(1, .arr 3 1 (l.map iTr))], 2) else none
def kd1_3_0 (r0 : List (List Tree)) : CB := (unInts r0).bind (kd1_3_1)
def kd1_3 : List TV → List (Nat × AObj) → CB
  | [.c (.t (.sl 1 r0))], [] => kd1_3_0 r0
  | _, _ => none
def kd1_4_1 (l : List Int) : CB := if l.length ≤ 1073741824 then some (.c (.own 1 0 l.length), [(1, .arr 5 1 (l.map bTr))], 2) else none
def kd1_4_0 (r0 : List (List Tree)) : CB := (unBys r0).bind (kd1_4_1)
def kd1_4 : List TV → List (Nat × AObj) → CB
  | [.c (.t (.sl 1 r0))], [] => kd1_4_0 r0
  | _, _ => none
def kd1_5_1 (l : List Int) : CB := if l.length ≤ 1073741824 then some (.c (.own 1 0 l.length), [(1, .arr 3 1 (l.map iTr))], 2) else none
def kd1_5_0 (r0 : List (List Tree)) : CB := (unInts r0).bind (kd1_5_1)
def kd1_5 : List TV → List (Nat × AObj) → CB
  | [.c (.t (.sl 1 r0))], [] => kd1_5_0 r0
  | _, _ => none
def kd1_6_1 (l : List Int) : CB := if l.length ≤ 1073741824 then some (.c (.own 1 0 l.length), [(1, .arr 5 1 (l.map bTr))], 2) else none
def kd1_6_0 (r0 : List (List Tree)) : CB := (unBys r0).bind (kd1_6_1)
def kd1_6 : List TV → List (Nat × AObj) → CB
  | [.c (.t (.sl 1 r0))], [] => kd1_6_0 r0
  | _, _ => none
def kd1_call (f : FuncId) (args : List TV) (o : List (Nat × AObj)) : CB := if f = 19 then orO (kd1_0 args o) (kd0.callB f args o) else if f = 78 then orO (kd1_1 args o) (kd0.callB f args o) else if f = 13 then orO (kd1_2 args o) (kd0.callB f args o) else if f = 69 then orO (kd1_3 args o) (kd0.callB f args o) else if f = 74 then orO (kd1_4 args o) (kd0.callB f args o) else if f = 135 then orO (kd1_5 args o) (kd0.callB f args o) else if f = 67 then orO (kd1_6 args o) (kd0.callB f args o) else kd0.callB f args o
def kd1 : Kn := { call := kd0.call, eqs := eqTys, callB := kd1_call }
attribute [go_sem] kd1_0_0 kd1_0_1 kd1_0 kd1_1_0 kd1_1_1 kd1_1 kd1_2_0 kd1_2_1 kd1_2 kd1_3_0 kd1_3_1 kd1_3 kd1_4_0 kd1_4_1 kd1_4 kd1_5_0 kd1_5_1 kd1_5 kd1_6_0 kd1_6_1 kd1_6 kd1_call kd1
theorem kd1_ok : ∀ f args o res o1 n1, kd1_call f args o = some (res, o1, n1) → TC Try.prog f args o (o.length + 1) res o1 n1 := by
  intro f args o res o1 n1 h
  unfold kd1_call at h
  split at h
  · rename_i e; subst e
    have hh := orO_elim h
    clear h
    rcases hh with h | h
    rotate_left
    · exact kD0.callB _ _ _ _ _ _ h
    unfold kd1_0 at h
    split at h
    · rename_i n k r0; unfold kd1_0_0 at h
      have hb0 := Option.bind_eq_some_iff.1 h
      clear h
      obtain ⟨l, e0, h⟩ := hb0
      unfold kd1_0_1 at h
      split at h
      · rename_i hc; cases h; rw [unBys_ok e0]; obtain ⟨rfl, h1, h2⟩ := hc; exact markBs_tc l k h1 h2
      · cases h
    · cases h
  split at h
  · rename_i e; subst e
    have hh := orO_elim h
    clear h
    rcases hh with h | h
    rotate_left
    · exact kD0.callB _ _ _ _ _ _ h
    unfold kd1_1 at h
    split at h
    · rename_i n k r0; unfold kd1_1_0 at h
      have hb0 := Option.bind_eq_some_iff.1 h
      clear h
      obtain ⟨l, e0, h⟩ := hb0
      unfold kd1_1_1 at h
      split at h
      · rename_i hc; cases h; rw [unInts_ok e0]; obtain ⟨rfl, h1, h2⟩ := hc; exact markIs_tc l k h1 h2
      · cases h
    · cases h
  split at h
  · rename_i e; subst e
    have hh := orO_elim h
    clear h
    rcases hh with h | h
    rotate_left
    · exact kD0.callB _ _ _ _ _ _ h
    unfold kd1_2 at h
    split at h
    · rename_i r0; unfold kd1_2_0 at h
      have hb0 := Option.bind_eq_some_iff.1 h
      clear h
      obtain ⟨l, e0, h⟩ := hb0
      unfold kd1_2_1 at h
      split at h
      · rename_i hc; cases h; rw [unBys_ok e0]; exact toBys_tc l hc
      · cases h
    · cases h
  split at h
  · rename_i e; subst e
    have hh := orO_elim h
    clear h
    rcases hh with h | h
    rotate_left
    · exact kD0.callB _ _ _ _ _ _ h
    unfold kd1_3 at h
    split at h
    · rename_i r0; unfold kd1_3_0 at h
      have hb0 := Option.bind_eq_some_iff.1 h
      clear h
      obtain ⟨l, e0, h⟩ := hb0
      unfold kd1_3_1 at h
      split at h
      · rename_i hc; cases h; rw [unInts_ok e0]; exact toInts_tc l hc
      · cases h
    · cases h
  split at h
  · rename_i e; subst e
    have hh := orO_elim h
    clear h
    rcases hh with h | h
    rotate_left
    · exact kD0.callB _ _ _ _ _ _ h
    unfold kd1_4 at h
    split at h
    · rename_i r0; unfold kd1_4_0 at h
      have hb0 := Option.bind_eq_some_iff.1 h
      clear h
      obtain ⟨l, e0, h⟩ := hb0
      unfold kd1_4_1 at h
      split at h
      · rename_i hc; cases h; rw [unBys_ok e0]; exact cloneBs_tc l hc
      · cases h
    · cases h
  split at h
  · rename_i e; subst e
    have hh := orO_elim h
    clear h
    rcases hh with h | h
    rotate_left
    · exact kD0.callB _ _ _ _ _ _ h
    unfold kd1_5 at h
    split at h
    · rename_i r0; unfold kd1_5_0 at h
      have hb0 := Option.bind_eq_some_iff.1 h
      clear h
      obtain ⟨l, e0, h⟩ := hb0
      unfold kd1_5_1 at h
      split at h
      · rename_i hc; cases h; rw [unInts_ok e0]; exact cloneIs_tc l hc
      · cases h
    · cases h
  split at h
  · rename_i e; subst e
    have hh := orO_elim h
    clear h
    rcases hh with h | h
    rotate_left
    · exact kD0.callB _ _ _ _ _ _ h
    unfold kd1_6 at h
    split at h
    · rename_i r0; unfold kd1_6_0 at h
      have hb0 := Option.bind_eq_some_iff.1 h
      clear h
      obtain ⟨l, e0, h⟩ := hb0
      unfold kd1_6_1 at h
      split at h
      · rename_i hc; cases h; rw [unBys_ok e0]; exact copyS_tc l hc
      · cases h
    · cases h
  · exact kD0.callB f args o res o1 n1 h
theorem kD1 : KnOk Try.prog kd1 := ⟨kD0.call, eqTysOk, kd1_ok⟩
end Go.Proofs.YthnpbfljoghbmaaA
