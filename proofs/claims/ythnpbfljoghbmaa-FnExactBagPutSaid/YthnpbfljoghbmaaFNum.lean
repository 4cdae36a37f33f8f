/- Numbers and texts as bytes: the reference's way. -/
import Derived.Test.YthnpbfljoghbmaaFCmd
import Derived.Test.YthnpbfljoghbmaaFOpen
import Derived.Laws.BitsAllLaws
namespace Go.Proofs.YthnpbfljoghbmaaA
open Go.Proofs
set_option autoImplicit false
set_option linter.unusedVariables false
set_option linter.unusedSimpArgs false
set_option maxRecDepth 4000
def bTr (n : Int) : List Tree := [.v (.int .u8 n)]
@[go_sem] theorem flat_bTr (l : List Int) : flatRows (l.map bTr) = true := flatRows_map (fun _ => rfl) l
attribute [go_sem] Option.isSome_some
@[go_sem] theorem take_map_len {α β : Type} (f : α → β) (l : List α) : (l.map f).take l.length = l.map f := List.take_of_length_le (by simp)
@[go_sem] theorem le_map_len {α β : Type} (f : α → β) (l : List α) : (l.length ≤ (l.map f).length) = True := by simp
@[go_sem] theorem len_map_go {α β : Type} (f : α → β) (l : List α) : (l.map f).length = l.length := by simp
@[go_sem] theorem le_selfN (n : Nat) : (n ≤ n) = True := by simp
theorem dom3 {o p q : AObj} (id : Nat) (x : AObj) (h : look id [(1, o), (2, p), (3, q)] = some x) : id < 4 := by
  simp only [look] at h
  (repeat' split at h) <;> first | omega | cases h
theorem am_st {P : Program} {C : Ctx} {Q : Exit → St → Prop} {st : St} {c : Code} (st' : St) (he : st = st') (h : am P C c Q st') : am P C c Q st := he ▸ h
theorem amR_st {P : Program} {C : Ctx} {Q : Exit → St → Prop} {st st' : St} {c : Code} {n : Nat} (he : st' = st) (h : amR P C c Q n st') : amR P C c Q n st := he ▸ h
theorem am_cut {P : Program} {C : Ctx} {Q : Exit → St → Prop} {st : St} {x z : Code} {id : Nat} (st1 : St) (hz : am P C z Q st1)
    (hx : ∀ K : St → Prop, (∀ (st' : St) (ρ : List (Nat × Nat)) (ts : List Nat) (N : Nat), tidyOk C.n0 ρ N = true → st'.tidy ρ ts N = st1 → K st') → am P C x (blockQ id (thenQ K Q)) st) : am P C x (blockQ id (thenQ (am P C z Q) Q)) st :=
  hx _ fun st' ρ ts N hok he => am_tidy ρ ts N hok (by rw [he]; exact hz)
/-- A number's bytes, seven bits each; f: how many may follow. -/
def numB : Nat → Int → List Int
  | 0, v => [v % 256]
  | f + 1, v => if v < 128 then [v % 256] else (v % 128 + 128) :: numB f (v / 128)
theorem numB_len : ∀ (f : Nat) (v : Int), 1 ≤ (numB f v).length ∧ (numB f v).length ≤ f + 1
  | 0, v => by simp [numB]
  | f + 1, v => by
    have := numB_len f (v / 128)
    unfold numB
    split
    · simp
    · simp only [List.length_cons]; omega
theorem numB_rng : ∀ (f : Nat) (v n : Int), n ∈ numB f v → 0 ≤ n ∧ n ≤ 255
  | 0, v, n, h => by simp [numB] at h; omega
  | f + 1, v, n, h => by
    unfold numB at h
    split at h
    · simp at h; omega
    · rcases List.mem_cons.1 h with h | h
      · omega
      · exact numB_rng f _ n h
def callN (f : Nat) (g : FuncId) (args : List TV) (o : List (Nat × AObj)) : CB :=
  match args, o with
  | [.c (.t (.v (.int .i64 n)))], [] => if g = 166 ∧ n ≤ 9223372036854775807 ∧ n < 128 ^ (f + 1) then some (.c (.own 1 0 (numB f n).length), [(1, .arr 5 1 ((numB f n).map bTr))], 2) else none
  | _, _ => none
def knN (f : Nat) : Kn := { call := kn1.call, eqs := eqTys, callB := callN f }
attribute [go_sem] callN knN
def NumOk (f : Nat) : Prop := ∀ v : Int, v ≤ 9223372036854775807 → v < 128 ^ (f + 1) → TC Try.prog 166 [int v] [] 1 (.c (.own 1 0 (numB f v).length)) [(1, .arr 5 1 ((numB f v).map bTr))] 2
theorem knN_ok (f : Nat) (h : NumOk f) : KnOk Try.prog (knN f) := by
  refine ⟨k1.call, eqTysOk, fun g args o res o1 n1 hr => ?_⟩
  have hr' : callN f g args o = some (res, o1, n1) := hr
  unfold callN at hr'
  split at hr'
  · split at hr'
    · rename_i n hc
      obtain ⟨rfl, hm, hv⟩ := hc
      cases hr'
      exact h n hm hv
    · cases hr'
  · cases hr'
theorem num0 {v : Int} (h : v < 128) (f : Nat) (kn : Kn) (k : KnOk Try.prog kn) : TC Try.prog 166 [int v] [] 1 (.c (.own 1 0 (numB f v).length)) [(1, .arr 5 1 ((numB f v).map bTr))] 2 := by
  have e : numB f v = [v % 256] := by
    cases f with
    | zero => rfl
    | succ f => rw [numB, if_pos h]
  rw [e]
  refine tc_intro Try.func166 rfl 21 rfl (Nat.le_of_ble_eq_true rfl) (by decide) [2] rfl (by intro id x h; cases h) ?_
  intro w0 E0
  have kOk := k
  have hp := (show (v < 128) = True ∧ IntKind.u8.wrap v = v % 256 from ⟨eq_true h, IntKind.wrap_u8' v⟩)
  repeat' (fail_if_success (with_reducible apply amR_id)); first
    | (refine guardP_mk (fun h => ?_) (fun h => ?_) <;> (refine go1 ?_; try simp only [decide_eq_true_eq, decide_eq_false_iff_not, Bool.not_true, Bool.not_false, Bool.not_eq_true', Bool.not_eq_false', beq_iff_eq, bne_iff_ne, beq_eq_false_iff_ne, bne_eq_false_iff_eq, ne_eq, Bool.false_eq_true, reduceCtorEq] at h))
    | (refine hK _ ?_; clear hK K Q1)
    | (refine ⟨by first | omega | (simp only [List.length_map, List.length_append, List.length_cons, List.length_nil, List.length_replicate, List.length_drop, List.length_take]; omega), by unfold maxLen; first | omega | (simp only [List.length_map, List.length_append, List.length_cons, List.length_nil, List.length_replicate, List.length_drop, List.length_take]; omega), ?_⟩)
    | (refine hK _ _ rfl ?_; clear hK K; try refine go1 ?_)
    | (refine am_retC [(1, 1)] rfl ?_ rfl rfl; first | refine go ?_ | rfl)
    | (refine am_retB [(1, 1)] rfl ?_ ?_ rfl <;> first | refine go ?_ | rfl)
    | (refine wkq ?_)
    | (refine am_rs tabOk kOk rfl fun K Q1 hK => ?_; refine go1 ?_)
    | (refine am_reg tabOk kOk rfl fun K Q1 hK => ?_; refine go1 ?_)
    | (refine am_ds mixed tabOk kOk rfl rfl fun K hK => ?_; refine go1 ?_)
    | (refine am_dreg mixed tabOk kOk rfl rfl fun K hK => ?_; refine go1 ?_)
  all_goals rfl
theorem numOk : ∀ f : Nat, f ≤ 9 → NumOk f
  | 0, _ => fun v hm h => num0 (by simpa using h) 0 kn1 k1
  | f + 1, hf => fun v hm h => by
    by_cases hv : v < 128
    · exact num0 hv _ kn1 k1
    · have e : numB (f + 1) v = (v % 128 + 128) :: numB f (v / 128) := by rw [numB, if_neg hv]
      rw [e]
      have hl := numB_len f (v / 128)
      have hq : v / 128 < 128 ^ (f + 1) := by
        have : (128 : Int) ^ (f + 1 + 1) = 128 ^ (f + 1) * 128 := Int.pow_succ ..
        omega
      refine tc_intro Try.func166 rfl 21 rfl (Nat.le_of_ble_eq_true rfl) (by decide) [2] rfl (by intro id x h; cases h) ?_
      intro w0 E0
      have kOk := knN_ok f (numOk f (by omega))
      have hp := (show (v < 128) = False ∧ Int.tdiv v 128 = v / 128 ∧ IntKind.i64.wrap (v / 128) = v / 128 ∧ IntKind.u8.wrap (IntKind.i64.wrap (Int.tmod v 128 + 128)) = v % 128 + 128 ∧ (v / 128 < 128 ^ (f + 1)) = True ∧ (v / 128 ≤ 9223372036854775807) = True ∧ ((128 : Int) = 0) = False from
        ⟨eq_false hv, Int.tdiv_eq_ediv_of_nonneg (by omega), by rw [IntKind.wrap_i64]; omega, by rw [Int.tmod_eq_emod_of_nonneg (by omega), IntKind.wrap_i64, IntKind.wrap_u8']; omega, eq_true hq, eq_true (by omega), by simp⟩)
      repeat' (fail_if_success (with_reducible apply amR_id)); first
        | (refine guardP_mk (fun h => ?_) (fun h => ?_) <;> (refine go1 ?_; try simp only [decide_eq_true_eq, decide_eq_false_iff_not, Bool.not_true, Bool.not_false, Bool.not_eq_true', Bool.not_eq_false', beq_iff_eq, bne_iff_ne, beq_eq_false_iff_ne, bne_eq_false_iff_eq, ne_eq, Bool.false_eq_true, reduceCtorEq] at h))
        | (refine hK _ ?_; clear hK K Q1)
        | (refine ⟨by first | omega | (simp only [List.length_map, List.length_append, List.length_cons, List.length_nil, List.length_replicate, List.length_drop, List.length_take]; omega), by unfold maxLen; first | omega | (simp only [List.length_map, List.length_append, List.length_cons, List.length_nil, List.length_replicate, List.length_drop, List.length_take]; omega), ?_⟩)
        | (refine hK _ _ rfl ?_; clear hK K; try refine go1 ?_)
        | (refine am_retC [(3, 1)] rfl ?_ rfl rfl; first | refine go ?_ | rfl)
        | (refine am_retB [(3, 1)] rfl ?_ ?_ rfl <;> first | refine go ?_ | rfl)
        | (refine wkq ?_)
        | (refine am_rs tabOk kOk rfl fun K Q1 hK => ?_; refine go1 ?_)
        | (refine am_reg tabOk kOk rfl fun K Q1 hK => ?_; refine go1 ?_)
        | (refine am_ds mixed tabOk kOk rfl rfl fun K hK => ?_; refine go1 ?_)
        | (refine am_dreg mixed tabOk kOk rfl rfl fun K hK => ?_; refine go1 ?_)
      all_goals first | rfl | (rw [Nat.add_comm])
def numL (v : Int) : List Int := numB 9 v
theorem numL_len (v : Int) : 1 ≤ (numL v).length ∧ (numL v).length ≤ 10 := numB_len 9 v
theorem num_tc (v : Int) (h : v ≤ 9223372036854775807) : TC Try.prog 166 [int v] [] 1 (.c (.own 1 0 (numL v).length)) [(1, .arr 5 1 ((numL v).map bTr))] 2 :=
  numOk 9 (Nat.le_refl _) v h (by omega)
/-- A text's bytes. -/
def strL (s : ByteArray) : List Int := s.data.toList.map fun b => (b.toNat : Int)
theorem strL_len (s : ByteArray) : (strL s).length = s.size := by
  unfold strL
  rw [List.length_map, Array.length_toList]
  rfl
def txtL (s : ByteArray) : List Int := numL s.size ++ strL s
theorem txtL_len (s : ByteArray) : (txtL s).length ≤ 10 + s.size := by
  have := numL_len s.size
  unfold txtL
  rw [List.length_append, strL_len]
  omega
def unBy : List Tree → Option Int
  | [.v (.int .u8 n)] => some n
  | _ => none
def unBys : List (List Tree) → Option (List Int)
  | [] => some []
  | x :: l => match unBy x, unBys l with
    | some n, some es => some (n :: es)
    | _, _ => none
@[go_sem] theorem unBys_map (l : List Int) : unBys (l.map bTr) = some l := by
  induction l with
  | nil => rfl
  | cons e l ih => simp only [List.map_cons, unBys, ih]; rfl
theorem unBys_ok : ∀ {xs : List (List Tree)} {l : List Int}, unBys xs = some l → xs = l.map bTr
  | [], l, h => by cases h; rfl
  | x :: xs, l, h => by
    unfold unBys at h
    split at h
    · rename_i n es hn he
      cases h
      rw [unBys_ok he]
      unfold unBy at hn
      split at hn
      · cases hn; rfl
      · cases hn
    · cases h
def kn50_0_0 (v : Int) : CB := if v ≤ 9223372036854775807 then some (.c (.own 1 0 (numL v).length), [(1, .arr 5 1 ((numL v).map bTr))], 2) else none
def kn50_0 : List TV → List (Nat × AObj) → CB
  | [.c (.t (.v (.int .i64 v)))], [] => kn50_0_0 v
  | _, _ => none
def kn50_call (f : FuncId) (args : List TV) (o : List (Nat × AObj)) : CB := if f = 166 then orO (kn50_0 args o) (kn1.callB f args o) else kn1.callB f args o
def kn50 : Kn := { call := kn1.call, eqs := eqTys, callB := kn50_call }
attribute [go_sem] kn50_0_0 kn50_0 kn50_call kn50
theorem kn50_ok : ∀ f args o res o1 n1, kn50_call f args o = some (res, o1, n1) → TC Try.prog f args o (o.length + 1) res o1 n1 := by
  intro f args o res o1 n1 h
  unfold kn50_call at h
  split at h
  · rename_i e; subst e
    have hh := orO_elim h
    clear h
    rcases hh with h | h
    rotate_left
    · exact k1.callB _ _ _ _ _ _ h
    unfold kn50_0 at h
    split at h
    · rename_i v; unfold kn50_0_0 at h
      split at h
      · rename_i hc; cases h; exact num_tc v hc
      · cases h
    · cases h
  · exact k1.callB f args o res o1 n1 h
theorem k50 : KnOk Try.prog kn50 := ⟨k1.call, eqTysOk, kn50_ok⟩
set_option maxHeartbeats 4000000 in
theorem text_tc (s : ByteArray) (hs : s.size ≤ 1048576) : TC Try.prog 199 [str s] [] 1 (.c (.own 1 0 (txtL s).length)) [(1, .arr 5 1 ((txtL s).map bTr))] 2 := by
  refine tc_intro Try.func199 rfl 21 rfl (Nat.le_of_ble_eq_true rfl) (by decide) [2] rfl (by intro id x h; cases h) ?_
  intro w0 E0
  have kOk := k50
  have hn := numL_len s.size
  have hp := (show (((s.size : Nat) : Int) ≤ 9223372036854775807) = True from eq_true (by omega))
  refine wk1 ?_
  refine am_tidy [(1, 1)] [0, 3, 4] 2 rfl ?_
  refine go1 ?_
  clear hp
  refine am_loop (s.size + 1) ?_
  suffices key : ∀ (d k : Nat), k + d = s.size → amR Try.prog _ _ _ (d + 1) ⟨[(0, str s), (3, .c (.own 1 0 (numL s.size ++ (strL s).take k).length)), (4, int (k : Nat))], [(1, .arr 5 1 ((numL s.size ++ (strL s).take k).map bTr))], 2⟩ from by
    refine amR_st ?_ (key s.size 0 (by simp))
    simp
  intro d
  induction d with
  | zero =>
    intro k hk
    obtain rfl : k = s.size := hk
    have hp := (show ((s.size : Int) < (s.size : Int)) = False from eq_false (by omega))
    rw [List.take_of_length_le (by rw [strL_len]; omega)]
    refine amR_succ ?_
    refine wk1 ?_
    refine am_retB [(1, 1)] rfl ?_ ?_ rfl <;> first | refine go ?_ | rfl
    all_goals rfl
  | succ d ih =>
    intro k hk
    have hks : k < s.size := by omega
    have ihk := ih (k + 1) (by omega)
    obtain ⟨b, hb, hb2⟩ : ∃ b : UInt8, s[k]? = some b ∧ (strL s)[k]? = some (b.toNat : Int) := ⟨s[k]'hks, getElem?_pos s k hks, by
      unfold strL
      rw [List.getElem?_map, Array.getElem?_toList, Array.getElem?_eq_getElem hks]
      rfl⟩
    rw [List.take_add_one, hb2, ← List.append_assoc] at ihk
    have hXl : (numL s.size ++ (strL s).take k).length ≤ 1048600 := by rw [List.length_append, List.length_take, strL_len]; omega
    clear ih
    generalize numL s.size ++ (strL s).take k = X at hXl ihk ⊢
    have hp := (show ((k : Int) < (s.size : Int)) = True ∧ s[k]? = some b ∧ IntKind.i64.wrap ((k : Int) + 1) = ((k + 1 : Nat) : Int) ∧ (X.length + 1 ≤ maxLen) = True ∧ ((X.length + 1) * 1 ≤ 140737488355328) = True from
      ⟨eq_true (by omega), hb, by rw [wrapN (by omega) (by omega)]; rfl, eq_true (by unfold maxLen; omega), eq_true (by omega)⟩)
    refine amR_succ ?_
    refine wk1 ?_
    refine amR_tidy [(3, 1)] [0, 3, 4] 2 rfl ?_
    refine go1 ?_
    refine amR_st ?_ ihk
    simp [bTr]
end Go.Proofs.YthnpbfljoghbmaaA
