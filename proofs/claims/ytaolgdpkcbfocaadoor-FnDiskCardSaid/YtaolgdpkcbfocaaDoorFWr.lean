/- The program's writer: numbers and texts. -/
import Derived.Test.YtaolgdpkcbfocaaDoorFCrc
namespace Go.Proofs.YtaolgdpkcbfocaaDoorA
open Go.Proofs
set_option autoImplicit false
set_option linter.unusedVariables false
set_option linter.unusedSimpArgs false
set_option maxRecDepth 4000
def iTr (n : Int) : List Tree := [.v (.int .i64 n)]
@[go_sem] theorem flat_iTr (l : List Int) : flatRows (l.map iTr) = true := flatRows_map (fun _ => rfl) l
def numsL : List Int → List Int
  | [] => []
  | v :: l => numL v ++ numsL l
theorem numsL_len : ∀ l : List Int, (numsL l).length ≤ 10 * l.length
  | [] => by simp [numsL]
  | v :: l => by
    have h1 := numsL_len l
    have h2 := numL_len v
    rw [numsL, List.length_append, List.length_cons]
    omega
theorem numsL_drop {l : List Int} {i : Nat} {v : Int} (h : l[i]? = some v) : numsL (l.drop i) = numL v ++ numsL (l.drop (i + 1)) := by
  have hi := (List.getElem?_eq_some_iff.1 h).1
  have e : l[i] = v := by rw [List.getElem?_eq_getElem hi] at h; exact Option.some.inj h
  rw [List.drop_eq_getElem_cons hi, numsL, e]
theorem or128 : ∀ B, B < 256 → B ||| 128 = B % 128 + 128 := by decide
theorem byte128 (x : Int) : bOr .u8 (IntKind.u8.wrap x) 128 = x % 128 + 128 := by
  rw [IntKind.wrap_u8']
  have h0 : 0 ≤ x % 256 := by omega
  obtain ⟨B, hB⟩ := Int.eq_ofNat_of_zero_le h0
  rw [hB]
  have := u8_or_nat B 128 (by omega) (by omega)
  have h2 : bOr .u8 (B : Int) ((128 : Nat) : Int) = ((B ||| 128 : Nat) : Int) := this
  rw [show (128 : Int) = ((128 : Nat) : Int) from rfl, h2, or128 B (by omega)]
  omega
theorem numB_small {e : Nat} {x : Int} (h : x < 128) : numB e x = [x % 256] := by
  cases e with
  | zero => rfl
  | succ e => rw [numB, if_pos h]
set_option maxHeartbeats 16000000 in
theorem nums_tc (bs vs : List Int) (hv : ∀ v, v ∈ vs → v ≤ 9223372036854775807) (hb : bs.length ≤ 1048576) (hn : vs.length ≤ 1024) : TC Tryd.prog 131 [.c (.ptr 1 0), .c (.own 3 0 vs.length)] [(1, .cells [.own 2 0 bs.length]), (2, .arr 5 1 (bs.map bTr)), (3, .arr 3 1 (vs.map iTr))] 4
    (.tup []) [(1, .cells [.own 4 0 (bs ++ numsL vs).length]), (3, .arr 3 1 (vs.map iTr)), (4, .arr 5 1 ((bs ++ numsL vs).map bTr))] 5 := by
  refine tc_intro Tryd.func131 rfl 40 rfl (Nat.le_of_ble_eq_true rfl) (by decide) [] rfl dom3 ?_
  intro w0 E0
  have kOk := k50
  refine am_mv 2 rfl ?_
  refine go ?_
  refine wk ?_
  refine am_tidy [(1, 1), (2, 2), (3, 3), (4, 4)] [0, 6, 7, 8] 5 rfl ?_
  refine go ?_
  refine am_loop (vs.length + 1) ?_
  suffices key : ∀ (d i : Nat) (X : List Int), i + d = vs.length → X ++ numsL (vs.drop i) = bs ++ numsL vs → X.length ≤ bs.length + 10 * i → amR Tryd.prog _ _ _ (d + 1) ⟨[(0, .c (.ptr 1 0)), (6, .c (.own 3 0 vs.length)), (7, int (vs.length : Nat)), (8, int (i : Nat))], [(1, .cells [.own 4 0 X.length]), (3, .arr 3 1 (vs.map iTr)), (4, .arr 5 1 (X.map bTr))], 5⟩ from key vs.length 0 bs (by simp) (by simp) (by simp)
  intro d
  induction d with
  | zero =>
    intro i X hi hX hl
    rw [List.drop_eq_nil_of_le (by omega), numsL, List.append_nil] at hX
    subst hX
    have hp := (show ((i : Int) < (vs.length : Int)) = False from eq_false (by omega))
    refine amR_succ ?_
    refine wk1 ?_
    refine ret_norm [(1, 1), (2, 2), (3, 3), (4, 4)] rfl ?_ ?_
    · rfl
    · rfl
  | succ d ih =>
    intro i X hi hX hl
    obtain ⟨v, hv0⟩ : ∃ v, vs[i]? = some v := ⟨vs[i]'(by omega), List.getElem?_eq_getElem (by omega)⟩
    rw [numsL_drop hv0, ← List.append_assoc] at hX
    have hp := (show ((i : Int) < (vs.length : Int)) = True ∧ (i < vs.length) = True ∧ (vs.map iTr)[i]? = some [.v (.int .i64 v)] from ⟨eq_true (by omega), eq_true (by omega), by rw [List.getElem?_map, hv0]; rfl⟩)
    refine amR_succ ?_
    refine wk1 ?_
    refine am_tidy [(1, 1), (2, 2), (3, 3), (4, 4)] [0, 5, 6, 7, 8] 5 rfl ?_
    refine go1 ?_
    clear hp
    refine am_loop 10 ?_
    have hvm := hv v (List.mem_of_getElem? hv0)
    suffices key : ∀ (e : Nat) (x : Int) (Y : List Int), x ≤ 9223372036854775807 → x < 128 ^ (e + 1) → Y ++ numB e x = X ++ numL v → Y.length + e ≤ X.length + 9 → amR Tryd.prog _ _ _ (e + 1) ⟨[(0, .c (.ptr 1 0)), (5, int x), (6, .c (.own 3 0 vs.length)), (7, int (vs.length : Nat)), (8, int (i : Nat))], [(1, .cells [.own 4 0 Y.length]), (3, .arr 3 1 (vs.map iTr)), (4, .arr 5 1 (Y.map bTr))], 5⟩ from key 9 v X hvm (by omega) rfl (by omega)
    have last : ∀ (x : Int) (Y : List Int), x < 128 → Y ++ [x % 256] = X ++ numL v → Y.length ≤ X.length + 9 → (Y.length + 1 ≤ maxLen) = True ∧ ((Y.length + 1) * 1 ≤ 140737488355328) = True ∧ (x > 127) = False ∧ IntKind.u8.wrap x = x % 256 ∧ IntKind.i64.wrap ((i : Int) + 1) = ((i + 1 : Nat) : Int) := fun x Y h1 h2 h3 =>
      ⟨eq_true (by unfold maxLen; omega), eq_true (by omega), eq_false (by omega), IntKind.wrap_u8' x, by rw [wrapN (by omega) (by omega)]; rfl⟩
    have nxt : ∀ (x : Int) (Y : List Int), Y ++ [x % 256] = X ++ numL v → Y.length ≤ X.length + 9 → amR Tryd.prog _ _ _ (d + 1) ⟨[(0, .c (.ptr 1 0)), (6, .c (.own 3 0 vs.length)), (7, int (vs.length : Nat)), (8, int ((i + 1 : Nat) : Int))], [(1, .cells [.own 4 0 (Y ++ [x % 256]).length]), (3, .arr 3 1 (vs.map iTr)), (4, .arr 5 1 ((Y ++ [x % 256]).map bTr))], 5⟩ := fun x Y h2 h3 =>
      ih (i + 1) (Y ++ [x % 256]) (by omega) (by rw [h2]; exact hX) (by rw [List.length_append]; simp; omega)
    clear ih
    intro e
    induction e with
    | zero =>
      intro x Y hxm hx hY hl2
      have hx' : x < 128 := by simpa using hx
      rw [numB_small hx'] at hY
      have hp := last x Y hx' hY (by omega)
      have hn2 := nxt x Y hY (by omega)
      refine amR_succ ?_
      refine wk1 ?_
      refine amR_tidy [(1, 1), (2, 2), (3, 3), (6, 4)] [0, 6, 7, 8] 5 rfl ?_
      refine go1 ?_
      refine amR_st ?_ hn2
      simp [bTr]
    | succ e ihe =>
      intro x Y hxm hx hY hl2
      by_cases hx' : x < 128
      · rw [numB_small hx'] at hY
        have hp := last x Y hx' hY (by omega)
        have hn2 := nxt x Y hY (by omega)
        refine amR_succ ?_
        refine wk1 ?_
        refine amR_tidy [(1, 1), (2, 2), (3, 3), (6, 4)] [0, 6, 7, 8] 5 rfl ?_
        refine go1 ?_
        refine amR_st ?_ hn2
        simp [bTr]
      · rw [numB, if_neg hx'] at hY
        have hq : x / 128 < 128 ^ (e + 1) := by
          have : (128 : Int) ^ (e + 1 + 1) = 128 ^ (e + 1) * 128 := Int.pow_succ ..
          omega
        have ihk := ihe (x / 128) (Y ++ [x % 128 + 128]) (by omega) hq (by rw [List.append_assoc]; exact hY) (by rw [List.length_append]; simp; omega)
        have hfd : Int.fdiv x (2 ^ min 7 64) = x / 128 := by
          rw [show ((2 : Int) ^ min 7 64) = 128 from rfl, Int.fdiv_eq_ediv_of_nonneg _ (by omega)]
        have hp := (show (Y.length + 1 ≤ maxLen) = True ∧ ((Y.length + 1) * 1 ≤ 140737488355328) = True ∧ (x > 127) = True ∧ bOr .u8 (IntKind.u8.wrap x) 128 = x % 128 + 128 ∧ Int.fdiv x (2 ^ min 7 64) = x / 128 from
          ⟨eq_true (by unfold maxLen; omega), eq_true (by omega), eq_true (by omega), byte128 x, hfd⟩)
        refine amR_succ ?_
        refine wk1 ?_
        refine amR_tidy [(1, 1), (2, 2), (3, 3), (6, 4)] [0, 5, 6, 7, 8] 5 rfl ?_
        refine go1 ?_
        refine amR_st ?_ ihk
        simp [bTr]
def smallL : List Int → Prop
  | [] => True
  | v :: l => v ≤ 9223372036854775807 ∧ smallL l
instance smallD : (l : List Int) → Decidable (smallL l)
  | [] => isTrue trivial
  | v :: l => match inferInstanceAs (Decidable (v ≤ 9223372036854775807)), smallD l with
    | isTrue h, isTrue k => isTrue ⟨h, k⟩
    | isFalse h, _ => isFalse fun p => h p.1
    | _, isFalse k => isFalse fun p => k p.2
theorem smallL_ok : ∀ {l : List Int}, smallL l → ∀ v, v ∈ l → v ≤ 9223372036854775807
  | v :: l, h, x, hx => (List.mem_cons.1 hx).elim (fun e => e ▸ h.1) (smallL_ok h.2 x)
@[go_sem] theorem smallL_nil : smallL [] = True := rfl
@[go_sem] theorem smallL_cons (v : Int) (l : List Int) : smallL (v :: l) = (v ≤ 9223372036854775807 ∧ smallL l) := rfl
def unI : List Tree → Option Int
  | [.v (.int .i64 n)] => some n
  | _ => none
def unInts : List (List Tree) → Option (List Int)
  | [] => some []
  | x :: l => match unI x, unInts l with
    | some n, some es => some (n :: es)
    | _, _ => none
@[go_sem] theorem unInts_map (l : List Int) : unInts (l.map iTr) = some l := by
  induction l with
  | nil => rfl
  | cons e l ih => simp only [List.map_cons, unInts, ih]; rfl
theorem unInts_ok : ∀ {xs : List (List Tree)} {l : List Int}, unInts xs = some l → xs = l.map iTr
  | [], l, h => by cases h; rfl
  | x :: xs, l, h => by
    unfold unInts at h
    split at h
    · rename_i n es hn he
      cases h
      rw [unInts_ok he]
      unfold unI at hn
      split at hn
      · cases hn; rfl
      · cases hn
    · cases h
attribute [go_sem] unI unInts
@[go_sem] theorem numsL_nil : numsL [] = [] := rfl
@[go_sem] theorem numsL_cons (v : Int) (l : List Int) : numsL (v :: l) = numL v ++ numsL l := rfl
def kn51_0_2 (m : Nat) (n : Nat) (bs : List Int) (vs : List Int) : CB := if m = vs.length ∧ n = bs.length ∧ smallL vs ∧ bs.length ≤ 1048576 ∧ vs.length ≤ 1024 then some (.tup [], [(1, .cells [.own 4 0 (bs ++ numsL vs).length]), (3, .arr 3 1 (vs.map iTr)), (4, .arr 5 1 ((bs ++ numsL vs).map bTr))], 5) else none
def kn51_0_1 (m : Nat) (n : Nat) (r1 : List (List Tree)) (bs : List Int) : CB := (unInts r1).bind (kn51_0_2 m n bs)
def kn51_0_0 (m : Nat) (n : Nat) (r0 : List (List Tree)) (r1 : List (List Tree)) : CB := (unBys r0).bind (kn51_0_1 m n r1)
def kn51_0 : List TV → List (Nat × AObj) → CB
  | [.c (.ptr 1 0), .c (.own 3 0 m)], [(1, .cells [.own 2 0 n]), (2, .arr 5 1 r0), (3, .arr 3 1 r1)] => kn51_0_0 m n r0 r1
  | _, _ => none
def kn51_call (f : FuncId) (args : List TV) (o : List (Nat × AObj)) : CB := if f = 131 then orO (kn51_0 args o) (kn50.callB f args o) else kn50.callB f args o
def kn51 : Kn := { call := kn50.call, eqs := eqTys, callB := kn51_call }
attribute [go_sem] kn51_0_0 kn51_0_1 kn51_0_2 kn51_0 kn51_call kn51
theorem kn51_ok : ∀ f args o res o1 n1, kn51_call f args o = some (res, o1, n1) → TC Tryd.prog f args o (o.length + 1) res o1 n1 := by
  intro f args o res o1 n1 h
  unfold kn51_call at h
  split at h
  · rename_i e; subst e
    have hh := orO_elim h
    clear h
    rcases hh with h | h
    rotate_left
    · exact k50.callB _ _ _ _ _ _ h
    unfold kn51_0 at h
    split at h
    · rename_i m n r0 r1; unfold kn51_0_0 at h
      have hb0 := Option.bind_eq_some_iff.1 h
      clear h
      obtain ⟨bs, e0, h⟩ := hb0
      unfold kn51_0_1 at h
      have hb1 := Option.bind_eq_some_iff.1 h
      clear h
      obtain ⟨vs, e1, h⟩ := hb1
      unfold kn51_0_2 at h
      split at h
      · rename_i hc; cases h; rw [unBys_ok e0, unInts_ok e1]; obtain ⟨rfl, rfl, h1, h2, h3⟩ := hc; exact nums_tc bs vs (smallL_ok h1) h2 h3
      · cases h
    · cases h
  · exact k50.callB f args o res o1 n1 h
theorem k51 : KnOk Tryd.prog kn51 := ⟨k50.call, eqTysOk, kn51_ok⟩
end Go.Proofs.YtaolgdpkcbfocaaDoorA
