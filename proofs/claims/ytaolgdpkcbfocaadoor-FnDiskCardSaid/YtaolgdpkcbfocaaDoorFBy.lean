/- Rows of bytes: what the laws do with them. -/
import Derived.Test.YtaolgdpkcbfocaaDoorFEnc2
namespace Go.Proofs.YtaolgdpkcbfocaaDoorA
open Go.Proofs
set_option autoImplicit false
set_option linter.unusedVariables false
set_option linter.unusedSimpArgs false
set_option maxRecDepth 4000
attribute [go_sem] Option.isSome_some
/-- What is left of a bulk. -/
def lft (left : Int) (n : Nat) : Int := if IntKind.i64.wrap (left - n) < 0 then -1 else IntKind.i64.wrap (left - n)
set_option maxHeartbeats 8000000 in
theorem eqBys_tc (l r : List Int) (hl : l.length ≤ 1048576) : TC Tryd.prog 13 [ro 1 (l.map bTr), ro 1 (r.map bTr)] [] 1 (bool (decide (l = r))) [] 1 := by
  refine tc_intro Tryd.func13 rfl 26 rfl (Nat.le_of_ble_eq_true rfl) (by decide) [4] rfl (by intro id x h; cases h) ?_
  intro w0 E0
  have kOk := k54
  have hp : (l.map bTr).length = l.length ∧ (r.map bTr).length = r.length := by simp
  refine wk1 ?_
  refine guardP_mk (fun h => ?_) (fun h => ?_)
  · refine go1 ?_
    refine wk1 ?_
    refine am_retP rfl ?_ rfl
    refine go ?_
    have : ¬ l = r := fun e => by subst e; simp at h
    simp [this]
  have hlr : l.length = r.length := by simp at h; omega
  refine go1 ?_
  refine wk1 ?_
  refine am_tidy [] [0, 1, 5] 1 rfl ?_
  refine go1 ?_
  clear hp
  refine am_loop (l.length + 1) ?_
  suffices key : ∀ (d k : Nat), k + d = l.length → l.take k = r.take k → amR Tryd.prog _ _ _ (d + 1) ⟨[(0, ro 1 (l.map bTr)), (1, ro 1 (r.map bTr)), (5, int (k : Nat))], [], 1⟩ from key l.length 0 (by simp) rfl
  intro d
  induction d with
  | zero =>
    intro k hk ht
    have hp : (l.map bTr).length = l.length := by simp
    refine amR_succ ?_
    refine wk1 ?_
    refine guardP_mk (fun h => ?_) (fun h => ?_)
    · simp at h; omega
    · refine go1 ?_
      refine wk1 ?_
      refine am_retP rfl ?_ rfl
      refine go ?_
      have : l = r := by rwa [List.take_of_length_le (by omega), List.take_of_length_le (by omega)] at ht
      simp [this]
  | succ d ih =>
    intro k hk ht
    obtain ⟨e, he⟩ : ∃ e, l[k]? = some e := ⟨l[k]'(by omega), List.getElem?_eq_getElem (by omega)⟩
    obtain ⟨e', he'⟩ : ∃ e', r[k]? = some e' := ⟨r[k]'(by omega), List.getElem?_eq_getElem (by omega)⟩
    have hp := (show (l.map bTr).length = l.length ∧ (l.map bTr)[k]? = some (bTr e) ∧ (r.map bTr)[k]? = some (bTr e') ∧ IntKind.i64.wrap ((k : Int) + 1) = ((k + 1 : Nat) : Int) from
      ⟨by simp, by rw [List.getElem?_map, he]; rfl, by rw [List.getElem?_map, he']; rfl, by rw [wrapN (by omega) (by omega)]; rfl⟩)
    have hee : e = e' → l.take (k + 1) = r.take (k + 1) := fun h => by rw [List.take_add_one, List.take_add_one, ht, he, he', h]
    have hne : e ≠ e' → l ≠ r := fun hx h2 => by subst h2; rw [he] at he'; exact hx (Option.some.inj he')
    obtain e := e
    obtain e' := e'
    simp only [bTr] at hp
    refine amR_succ ?_
    refine wk1 ?_
    refine guardP_mk (fun h => ?_) (fun h => ?_)
    · refine go1 ?_
      refine wk1 ?_
      refine guardP_mk (fun h => ?_) (fun h => ?_)
      · refine go1 ?_
        refine wk1 ?_
        refine am_retP rfl ?_ rfl
        refine go ?_
        have := hne (by intro hx; simp at h; simp_all)
        simp [this]
      · refine go1 ?_
        refine wk1 ?_
        refine amR_tidy [] [0, 1, 5] 1 rfl ?_
        refine go1 ?_
        exact ih (k + 1) (by omega) (hee (by simp at h; simp_all))
    · simp at h; omega
def mkB (c : Int) : Int := IntKind.u8.wrap c
def mkBs (n : Nat) (k : Int) : List Int := (List.range n).map fun i => mkB (k + (i : Nat))
theorem mkBs_len (n : Nat) (k : Int) : (mkBs n k).length = n := by simp [mkBs]
theorem mkBs_get {n i : Nat} (k : Int) (h : i < n) : (mkBs n k)[i]? = some (mkB (k + (i : Nat))) := by simp [mkBs, h]
def partB (l : List Int) (k : Int) (i : Nat) : List (List Tree) := (mkBs i k).map bTr ++ (l.drop i).map bTr
theorem partB_zero {l : List Int} {k : Int} : partB l k 0 = l.map bTr := by simp [partB, mkBs]
theorem partB_all {l : List Int} {k : Int} : partB l k l.length = (mkBs l.length k).map bTr := by simp [partB]
theorem partB_len {l : List Int} {k : Int} {i : Nat} (h : i ≤ l.length) : (partB l k i).length = l.length := by simp [partB, mkBs_len]; omega
theorem partB_set {l : List Int} {k : Int} {i : Nat} (h : i < l.length) : (partB l k i).set i (bTr (mkB (k + (i : Nat)))) = partB l k (i + 1) := by
  unfold partB
  have h1 : ((mkBs i k).map bTr).length = i := by simp [mkBs_len]
  rw [List.set_append_right _ _ (by omega), h1, Nat.sub_self, List.drop_eq_getElem_cons h, List.map_cons, List.set_cons_zero]
  have h2 : mkBs (i + 1) k = mkBs i k ++ [mkB (k + (i : Nat))] := by simp [mkBs, List.range_succ]
  rw [h2, List.map_append, List.append_assoc]
  rfl
theorem partB_at {l : List Int} {k : Int} {i : Nat} {e : Int} (h : l[i]? = some e) : (partB l k i)[i]? = some (bTr e) := by
  unfold partB
  have h1 : ((mkBs i k).map bTr).length = i := by simp [mkBs_len]
  rw [List.getElem?_append_right (by omega), h1, Nat.sub_self, List.getElem?_map, List.getElem?_drop, Nat.add_zero, h]
  rfl
set_option maxHeartbeats 16000000 in
theorem markBs_tc (l : List Int) (k : Int) (h0 : 0 ≤ k) (hk : k + (l.length : Nat) ≤ 1099511627776) : TC Tryd.prog 14 [.c (.own 1 0 l.length), int k] [(1, .arr 5 1 (l.map bTr))] 2 (int (k + (l.length : Nat))) [(1, .arr 5 1 ((mkBs l.length k).map bTr))] 2 := by
  refine tc_intro Tryd.func14 rfl 20 rfl (Nat.le_of_ble_eq_true rfl) (by decide) [4] rfl dom1 ?_
  intro w0 E0
  have kOk := k54
  refine wk ?_
  refine am_tidy [(1, 1)] [0, 1, 5] 2 rfl ?_
  refine go ?_
  refine am_loop (l.length + 1) ?_
  suffices key : ∀ (d i : Nat) (c : Int), i + d = l.length → c = k + (i : Nat) → amR Tryd.prog _ _ _ (d + 1) ⟨[(0, .c (.own 1 0 l.length)), (1, int c), (5, int (i : Nat))], [(1, .arr 5 1 (partB l k i))], 2⟩ from by
    have := key l.length 0 k (by simp) (by simp)
    rw [partB_zero] at this
    exact this
  intro d
  induction d with
  | zero =>
    intro i c hi hc
    refine amR_succ ?_
    refine wk ?_
    refine guardP_mk (fun h => ?_) (fun h => ?_)
    · simp at h; omega
    · refine go ?_
      refine wk ?_
      have hi' : i = l.length := hi
      subst hi'
      rw [partB_all]
      subst hc
      refine am_retB [(1, 1)] rfl ?_ ?_ rfl <;> first | refine go ?_ | rfl
  | succ d ih =>
    intro i c hi hc
    obtain ⟨e, he⟩ : ∃ e, l[i]? = some e := ⟨l[i]'(by omega), List.getElem?_eq_getElem (by omega)⟩
    have hat := partB_at (k := k) he
    have hset := partB_set (k := k) (show i < l.length by omega)
    rw [← hc] at hset
    have hlen := partB_len (k := k) (show i ≤ l.length by omega)
    have hp := (show (partB l k i)[i]? = some (bTr e) ∧ (partB l k i).set i (bTr (mkB c)) = partB l k (i + 1) ∧ (∀ r : List Tree, ((partB l k i).set i r)[i]? = some r) ∧ (∀ r s : List Tree, ((partB l k i).set i r).set i s = (partB l k i).set i s) ∧
        IntKind.i64.wrap ((i : Int) + 1) = ((i + 1 : Nat) : Int) ∧ (i < l.length) = True ∧ IntKind.i64.wrap (c + 1) = c + 1 from
      ⟨hat, hset, fun r => by rw [List.getElem?_set_self (by omega)], fun r s => by rw [List.set_set], by rw [wrapN (by omega) (by omega)]; rfl, eq_true (by omega), wrapN (by omega) (by omega)⟩)
    clear hat hset hlen
    simp only [bTr, mkB] at hp
    refine amR_succ ?_
    refine wk1 ?_
    refine guardP_mk (fun h => ?_) (fun h => ?_)
    · refine go1 ?_
      refine wk1 ?_
      refine amR_tidy [(1, 1)] [0, 1, 5] 2 rfl ?_
      refine go1 ?_
      exact ih (i + 1) _ (by omega) (by omega)
    · simp at h; omega
@[go_sem] theorem take_mapB {β : Type} (f : Int → β) (l : List Int) : (l.map f).take l.length = l.map f := List.take_of_length_le (by simp)
@[go_sem] theorem le_mapB {β : Type} (f : Int → β) (l : List Int) : (l.length ≤ (l.map f).length) = True := by simp
@[go_sem] theorem take_mkB {β : Type} (f : Int → β) (n : Nat) (k : Int) : ((mkBs n k).map f).take n = (mkBs n k).map f := List.take_of_length_le (by simp [mkBs_len])
@[go_sem] theorem le_mkB {β : Type} (f : Int → β) (n : Nat) (k : Int) : (n ≤ ((mkBs n k).map f).length) = True := by simp [mkBs_len]
@[go_sem] theorem mkB_self (n : Nat) (k : Int) : (mkBs n k = mkBs (mkBs n k).length k) = True := by simp [mkBs_len]
set_option maxHeartbeats 16000000 in
theorem heldBs_tc (n : Nat) (k : Int) (h0 : 0 ≤ k) (hk : k + (n : Nat) ≤ 1099511627776) : TC Tryd.prog 15 [ro 1 ((mkBs n k).map bTr), int k] [] 1 (int (k + (n : Nat))) [] 1 := by
  refine tc_intro Tryd.func15 rfl 22 rfl (Nat.le_of_ble_eq_true rfl) (by decide) [4] rfl (by intro id x h; cases h) ?_
  intro w0 E0
  have kOk := k54
  refine wk ?_
  refine am_tidy [] [0, 1, 5] 1 rfl ?_
  refine go ?_
  refine am_loop (n + 1) ?_
  suffices key : ∀ (d i : Nat) (c : Int), i + d = n → c = k + (i : Nat) → amR Tryd.prog _ _ _ (d + 1) ⟨[(0, ro 1 ((mkBs n k).map bTr)), (1, int c), (5, int (i : Nat))], [], 1⟩ from key n 0 k (by simp) (by simp)
  intro d
  induction d with
  | zero =>
    intro i c hi hc
    have hp : ((mkBs n k).map bTr).length = n := by simp [mkBs_len]
    refine amR_succ ?_
    refine wk1 ?_
    refine guardP_mk (fun h => ?_) (fun h => ?_)
    · simp at h; omega
    · refine go1 ?_
      refine wk1 ?_
      have hi' : i = n := hi
      subst hi'
      subst hc
      refine am_retP rfl ?_ rfl
      first | refine go ?_ | rfl
  | succ d ih =>
    intro i c hi hc
    have hat : ((mkBs n k).map bTr)[i]? = some (bTr (mkB c)) := by rw [List.getElem?_map, mkBs_get k (by omega), hc]; rfl
    have hp := (show ((mkBs n k).map bTr).length = n ∧ ((mkBs n k).map bTr)[i]? = some (bTr (mkB c)) ∧
        IntKind.i64.wrap ((i : Int) + 1) = ((i + 1 : Nat) : Int) ∧ (∀ x : Int, (x != x) = false) ∧ IntKind.i64.wrap (c + 1) = c + 1 from
      ⟨by simp [mkBs_len], hat, by rw [wrapN (by omega) (by omega)]; rfl, fun x => by simp, wrapN (by omega) (by omega)⟩)
    clear hat
    simp only [bTr, mkB] at hp
    refine amR_succ ?_
    refine wk1 ?_
    refine guardP_mk (fun h => ?_) (fun h => ?_)
    · refine go1 ?_
      refine wk1 ?_
      refine amR_tidy [] [0, 1, 5] 1 rfl ?_
      refine go1 ?_
      exact ih (i + 1) _ (by omega) (by omega)
    · simp at h; omega
theorem markBs0_tc (k : Int) : TC Tryd.prog 14 [lit (.slice none 0 0), int k] [] 1 (int k) [] 1 := by
  refine tc_intro Tryd.func14 rfl 20 rfl (Nat.le_of_ble_eq_true rfl) (by decide) [4] rfl (by intro id x h; cases h) ?_
  intro w0 E0
  have kOk := k54
  refine wk ?_
  refine am_loop 1 (amR_succ ?_)
  repeat' (fail_if_success (with_reducible apply amR_id)); first
    | (refine guardP_mk (fun h => ?_) (fun h => ?_) <;> (refine go ?_; try simp only [decide_eq_true_eq, decide_eq_false_iff_not, Bool.not_true, Bool.not_false, Bool.not_eq_true', Bool.not_eq_false', beq_iff_eq, bne_iff_ne, beq_eq_false_iff_ne, bne_eq_false_iff_eq, ne_eq, Bool.false_eq_true, reduceCtorEq] at h))
    | (refine hK _ ?_; clear hK K Q1)
    | (refine ⟨by first | omega | (simp only [List.length_map, List.length_append, List.length_cons, List.length_nil, List.length_replicate, List.length_drop, List.length_take]; omega), by unfold maxLen; first | omega | (simp only [List.length_map, List.length_append, List.length_cons, List.length_nil, List.length_replicate, List.length_drop, List.length_take]; omega), ?_⟩)
    | (refine hK _ _ rfl ?_; clear hK K; try refine go ?_)
    | (refine am_retP rfl ?_ rfl; first | refine go ?_ | rfl)
    | (refine am_retC [] rfl ?_ rfl rfl; first | refine go ?_ | rfl)
    | (refine wkp ?_)
    | (refine am_rs tabOk kOk rfl fun K Q1 hK => ?_; refine go ?_)
    | (refine am_reg tabOk kOk rfl fun K Q1 hK => ?_; refine go ?_)
    | (refine am_ds mixed tabOk kOk rfl rfl fun K hK => ?_; refine go ?_)
    | (refine am_dreg mixed tabOk kOk rfl rfl fun K hK => ?_; refine go ?_)
  all_goals first | rfl | (exfalso; omega)
theorem heldBs0_tc (k : Int) : TC Tryd.prog 15 [lit (.slice none 0 0), int k] [] 1 (int k) [] 1 := by
  refine tc_intro Tryd.func15 rfl 22 rfl (Nat.le_of_ble_eq_true rfl) (by decide) [4] rfl (by intro id x h; cases h) ?_
  intro w0 E0
  have kOk := k54
  refine wk ?_
  refine am_loop 1 (amR_succ ?_)
  repeat' (fail_if_success (with_reducible apply amR_id)); first
    | (refine guardP_mk (fun h => ?_) (fun h => ?_) <;> (refine go ?_; try simp only [decide_eq_true_eq, decide_eq_false_iff_not, Bool.not_true, Bool.not_false, Bool.not_eq_true', Bool.not_eq_false', beq_iff_eq, bne_iff_ne, beq_eq_false_iff_ne, bne_eq_false_iff_eq, ne_eq, Bool.false_eq_true, reduceCtorEq] at h))
    | (refine hK _ ?_; clear hK K Q1)
    | (refine ⟨by first | omega | (simp only [List.length_map, List.length_append, List.length_cons, List.length_nil, List.length_replicate, List.length_drop, List.length_take]; omega), by unfold maxLen; first | omega | (simp only [List.length_map, List.length_append, List.length_cons, List.length_nil, List.length_replicate, List.length_drop, List.length_take]; omega), ?_⟩)
    | (refine hK _ _ rfl ?_; clear hK K; try refine go ?_)
    | (refine am_retP rfl ?_ rfl; first | refine go ?_ | rfl)
    | (refine am_retC [] rfl ?_ rfl rfl; first | refine go ?_ | rfl)
    | (refine wkp ?_)
    | (refine am_rs tabOk kOk rfl fun K Q1 hK => ?_; refine go ?_)
    | (refine am_reg tabOk kOk rfl fun K Q1 hK => ?_; refine go ?_)
    | (refine am_ds mixed tabOk kOk rfl rfl fun K hK => ?_; refine go ?_)
    | (refine am_dreg mixed tabOk kOk rfl rfl fun K hK => ?_; refine go ?_)
  all_goals first | rfl | (exfalso; omega)
theorem eqBs0_tc : TC Tryd.prog 13 [lit (.slice none 0 0), ro 1 (([] : List Int).map bTr)] [] 1 (bool true) [] 1 := by
  refine tc_intro Tryd.func13 rfl 26 rfl (Nat.le_of_ble_eq_true rfl) (by decide) [4] rfl (by intro id x h; cases h) ?_
  intro w0 E0
  have kOk := k54
  refine hd ?_
  repeat' (fail_if_success (with_reducible apply amR_id)); first
    | (refine guardP_mk (fun h => ?_) (fun h => ?_) <;> (refine go ?_; try simp only [decide_eq_true_eq, decide_eq_false_iff_not, Bool.not_true, Bool.not_false, Bool.not_eq_true', Bool.not_eq_false', beq_iff_eq, bne_iff_ne, beq_eq_false_iff_ne, bne_eq_false_iff_eq, ne_eq, Bool.false_eq_true, reduceCtorEq] at h))
    | (refine hK _ ?_; clear hK K Q1)
    | (refine ⟨by first | omega | (simp only [List.length_map, List.length_append, List.length_cons, List.length_nil, List.length_replicate, List.length_drop, List.length_take]; omega), by unfold maxLen; first | omega | (simp only [List.length_map, List.length_append, List.length_cons, List.length_nil, List.length_replicate, List.length_drop, List.length_take]; omega), ?_⟩)
    | (refine hK _ _ rfl ?_; clear hK K; try refine go ?_)
    | (refine am_retP rfl ?_ rfl; first | refine go ?_ | rfl)
    | (refine am_retC [] rfl ?_ rfl rfl; first | refine go ?_ | rfl)
    | (refine wkp ?_)
    | (refine am_rs tabOk kOk rfl fun K Q1 hK => ?_; refine go ?_)
    | (refine am_reg tabOk kOk rfl fun K Q1 hK => ?_; refine go ?_)
    | (refine am_ds mixed tabOk kOk rfl rfl fun K hK => ?_; refine go ?_)
    | (refine am_dreg mixed tabOk kOk rfl rfl fun K hK => ?_; refine go ?_)
  all_goals try (exfalso; simp at *; done)
  all_goals refine am_loop 1 (amR_succ ?_)
  repeat' (fail_if_success (with_reducible apply amR_id)); first
    | (refine guardP_mk (fun h => ?_) (fun h => ?_) <;> (refine go ?_; try simp only [decide_eq_true_eq, decide_eq_false_iff_not, Bool.not_true, Bool.not_false, Bool.not_eq_true', Bool.not_eq_false', beq_iff_eq, bne_iff_ne, beq_eq_false_iff_ne, bne_eq_false_iff_eq, ne_eq, Bool.false_eq_true, reduceCtorEq] at h))
    | (refine hK _ ?_; clear hK K Q1)
    | (refine ⟨by first | omega | (simp only [List.length_map, List.length_append, List.length_cons, List.length_nil, List.length_replicate, List.length_drop, List.length_take]; omega), by unfold maxLen; first | omega | (simp only [List.length_map, List.length_append, List.length_cons, List.length_nil, List.length_replicate, List.length_drop, List.length_take]; omega), ?_⟩)
    | (refine hK _ _ rfl ?_; clear hK K; try refine go ?_)
    | (refine am_retP rfl ?_ rfl; first | refine go ?_ | rfl)
    | (refine am_retC [] rfl ?_ rfl rfl; first | refine go ?_ | rfl)
    | (refine wkp ?_)
    | (refine am_rs tabOk kOk rfl fun K Q1 hK => ?_; refine go ?_)
    | (refine am_reg tabOk kOk rfl fun K Q1 hK => ?_; refine go ?_)
    | (refine am_ds mixed tabOk kOk rfl rfl fun K hK => ?_; refine go ?_)
    | (refine am_dreg mixed tabOk kOk rfl rfl fun K hK => ?_; refine go ?_)
  all_goals first | rfl | (exfalso; omega) | (exfalso; simp at *; done)
def kn58_0_2 (a : List Int) (b : List Int) : Option TV := if a.length ≤ 1048576 then some (bool (decide (a = b))) else none
def kn58_0_1 (r1 : List (List Tree)) (a : List Int) : Option TV := (unBys r1).bind (kn58_0_2 a)
def kn58_0_0 (r0 : List (List Tree)) (r1 : List (List Tree)) : Option TV := (unBys r0).bind (kn58_0_1 r1)
def kn58_0 : List TV → Option TV
  | [.c (.t (.sl 1 r0)), .c (.t (.sl 1 r1))] => kn58_0_0 r0 r1
  | _ => none
def kn58_1_0 (k : Int) : Option TV := some (int k)
def kn58_1 : List TV → Option TV
  | [.c (.t (.v (.slice none 0 0))), .c (.t (.v (.int .i64 k)))] => kn58_1_0 k
  | _ => none
def kn58_2_0 (k : Int) : Option TV := some (int k)
def kn58_2 : List TV → Option TV
  | [.c (.t (.v (.slice none 0 0))), .c (.t (.v (.int .i64 k)))] => kn58_2_0 k
  | _ => none
def kn58_call (f : FuncId) (args : List TV) : Option TV := if f = 13 then orO (kn58_0 args) (kn54.call f args) else if f = 15 then orO (kn58_1 args) (kn54.call f args) else if f = 14 then orO (kn58_2 args) (kn54.call f args) else kn54.call f args
def kn58 : Kn := { call := kn58_call, eqs := eqTys, callB := kn54.callB }
attribute [go_sem] kn58_0_0 kn58_0_1 kn58_0_2 kn58_0 kn58_1_0 kn58_1 kn58_2_0 kn58_2 kn58_call kn58
theorem kn58_ok : ∀ f args res, kn58_call f args = some res → TC Tryd.prog f args [] 1 res [] 1 := by
  intro f args res h
  unfold kn58_call at h
  split at h
  · rename_i e; subst e
    have hh := orO_elim h
    clear h
    rcases hh with h | h
    rotate_left
    · exact k54.call _ _ _ h
    unfold kn58_0 at h
    split at h
    · rename_i r0 r1; unfold kn58_0_0 at h
      obtain ⟨a, e0, h⟩ := Option.bind_eq_some_iff.1 h
      unfold kn58_0_1 at h
      obtain ⟨b, e1, h⟩ := Option.bind_eq_some_iff.1 h
      unfold kn58_0_2 at h
      split at h
      · rename_i hc; cases h; rw [unBys_ok e0, unBys_ok e1]; exact eqBys_tc a b hc
      · cases h
    · cases h
  split at h
  · rename_i e; subst e
    have hh := orO_elim h
    clear h
    rcases hh with h | h
    rotate_left
    · exact k54.call _ _ _ h
    unfold kn58_1 at h
    split at h
    · rename_i k; unfold kn58_1_0 at h
      cases h; exact heldBs0_tc k
    · cases h
  split at h
  · rename_i e; subst e
    have hh := orO_elim h
    clear h
    rcases hh with h | h
    rotate_left
    · exact k54.call _ _ _ h
    unfold kn58_2 at h
    split at h
    · rename_i k; unfold kn58_2_0 at h
      cases h; exact markBs0_tc k
    · cases h
  · exact k54.call f args res h
theorem k58 : KnOk Tryd.prog kn58 := ⟨kn58_ok, eqTysOk, k54.callB⟩
def kn59_0_1 (b : List Int) : Option TV := if b = [] then some (bool true) else none
def kn59_0_0 (r1 : List (List Tree)) : Option TV := (unBys r1).bind (kn59_0_1)
def kn59_0 : List TV → Option TV
  | [.c (.t (.v (.slice none 0 0))), .c (.t (.sl 1 r1))] => kn59_0_0 r1
  | _ => none
def kn59_1_1 (k : Int) (a : List Int) : Option TV := if a = mkBs a.length k ∧ 0 ≤ k ∧ k + (a.length : Nat) ≤ 1099511627776 then some (int (k + (a.length : Nat))) else none
def kn59_1_0 (k : Int) (r0 : List (List Tree)) : Option TV := (unBys r0).bind (kn59_1_1 k)
def kn59_1 : List TV → Option TV
  | [.c (.t (.sl 1 r0)), .c (.t (.v (.int .i64 k)))] => kn59_1_0 k r0
  | _ => none
def kn59_call (f : FuncId) (args : List TV) : Option TV := if f = 13 then orO (kn59_0 args) (kn58.call f args) else if f = 15 then orO (kn59_1 args) (kn58.call f args) else kn58.call f args
def kn59 : Kn := { call := kn59_call, eqs := eqTys, callB := kn58.callB }
attribute [go_sem] kn59_0_0 kn59_0_1 kn59_0 kn59_1_0 kn59_1_1 kn59_1 kn59_call kn59
theorem kn59_ok : ∀ f args res, kn59_call f args = some res → TC Tryd.prog f args [] 1 res [] 1 := by
  intro f args res h
  unfold kn59_call at h
  split at h
  · rename_i e; subst e
    have hh := orO_elim h
    clear h
    rcases hh with h | h
    rotate_left
    · exact k58.call _ _ _ h
    unfold kn59_0 at h
    split at h
    · rename_i r1; unfold kn59_0_0 at h
      obtain ⟨b, e0, h⟩ := Option.bind_eq_some_iff.1 h
      unfold kn59_0_1 at h
      split at h
      · rename_i hc; cases h; rw [unBys_ok e0]; exact (by rw [hc]; exact eqBs0_tc)
      · cases h
    · cases h
  split at h
  · rename_i e; subst e
    have hh := orO_elim h
    clear h
    rcases hh with h | h
    rotate_left
    · exact k58.call _ _ _ h
    unfold kn59_1 at h
    split at h
    · rename_i r0 k; unfold kn59_1_0 at h
      obtain ⟨a, e0, h⟩ := Option.bind_eq_some_iff.1 h
      unfold kn59_1_1 at h
      split at h
      · rename_i hc; cases h; rw [unBys_ok e0]; exact (by rw [hc.1, mkBs_len]; exact heldBs_tc a.length k hc.2.1 hc.2.2)
      · cases h
    · cases h
  · exact k58.call f args res h
theorem k59 : KnOk Tryd.prog kn59 := ⟨kn59_ok, eqTysOk, k58.callB⟩
def kn60_0_1 (n : Nat) (k : Int) (l : List Int) : CB := if n = l.length ∧ 0 ≤ k ∧ k + (l.length : Nat) ≤ 1099511627776 then some (int (k + (l.length : Nat)), [(1, .arr 5 1 ((mkBs l.length k).map bTr))], 2) else none
def kn60_0_0 (n : Nat) (k : Int) (r0 : List (List Tree)) : CB := (unBys r0).bind (kn60_0_1 n k)
def kn60_0 : List TV → List (Nat × AObj) → CB
  | [.c (.own 1 0 n), .c (.t (.v (.int .i64 k)))], [(1, .arr 5 1 r0)] => kn60_0_0 n k r0
  | _, _ => none
def kn60_call (f : FuncId) (args : List TV) (o : List (Nat × AObj)) : CB := if f = 14 then orO (kn60_0 args o) (kn59.callB f args o) else kn59.callB f args o
def kn60 : Kn := { call := kn59.call, eqs := eqTys, callB := kn60_call }
attribute [go_sem] kn60_0_0 kn60_0_1 kn60_0 kn60_call kn60
theorem kn60_ok : ∀ f args o res o1 n1, kn60_call f args o = some (res, o1, n1) → TC Tryd.prog f args o (o.length + 1) res o1 n1 := by
  intro f args o res o1 n1 h
  unfold kn60_call at h
  split at h
  · rename_i e; subst e
    have hh := orO_elim h
    clear h
    rcases hh with h | h
    rotate_left
    · exact k59.callB _ _ _ _ _ _ h
    unfold kn60_0 at h
    split at h
    · rename_i n k r0; unfold kn60_0_0 at h
      have hb0 := Option.bind_eq_some_iff.1 h
      clear h
      obtain ⟨l, e0, h⟩ := hb0
      unfold kn60_0_1 at h
      split at h
      · rename_i hc; cases h; rw [unBys_ok e0]; obtain ⟨rfl, h1, h2⟩ := hc; exact markBs_tc l k h1 h2
      · cases h
    · cases h
  · exact k59.callB f args o res o1 n1 h
theorem k60 : KnOk Tryd.prog kn60 := ⟨k59.call, eqTysOk, kn60_ok⟩
end Go.Proofs.YtaolgdpkcbfocaaDoorA
