/- The program's writer: texts. -/
import Derived.Test.YtaolgdpkcbfocaaDoorFWr
namespace Go.Proofs.YtaolgdpkcbfocaaDoorA
open Go.Proofs
set_option autoImplicit false
set_option linter.unusedVariables false
set_option linter.unusedSimpArgs false
set_option maxRecDepth 4000
@[go_sem] theorem str_rows (s : ByteArray) : List.map (fun b : UInt8 => [Tree.v (Value.int IntKind.u8 (b.toNat : Int))]) s.data.toList = (strL s).map bTr := by
  unfold strL
  rw [List.map_map]
  rfl
@[go_sem] theorem map_app_back (a b : List Int) : a.map bTr ++ b.map bTr = (a ++ b).map bTr := by rw [List.map_append]
@[go_sem] theorem len_app_back (a b : List Int) : a.length + b.length = (a ++ b).length := by rw [List.length_append]
def sTr (s : ByteArray) : List Tree := [.v (.string s)]
def txtsL : List ByteArray → List Int
  | [] => []
  | s :: l => txtL s ++ txtsL l
theorem txtsL_drop {l : List ByteArray} {i : Nat} {s : ByteArray} (h : l[i]? = some s) : txtsL (l.drop i) = txtL s ++ txtsL (l.drop (i + 1)) := by
  have hi := (List.getElem?_eq_some_iff.1 h).1
  have e : l[i] = s := by rw [List.getElem?_eq_getElem hi] at h; exact Option.some.inj h
  rw [List.drop_eq_getElem_cons hi, txtsL, e]
set_option maxHeartbeats 16000000 in
theorem texts_tc (bs : List Int) (ts : List ByteArray) (ht : ∀ s, s ∈ ts → s.size ≤ 1024) (hb : bs.length ≤ 1000000) (hn : ts.length ≤ 16) : TC Tryd.prog 132 [.c (.ptr 1 0), .c (.own 3 0 ts.length)] [(1, .cells [.own 2 0 bs.length]), (2, .arr 5 1 (bs.map bTr)), (3, .arr 9 1 (ts.map sTr))] 4
    (.tup []) [(1, .cells [.own 4 0 (bs ++ txtsL ts).length]), (3, .arr 9 1 (ts.map sTr)), (4, .arr 5 1 ((bs ++ txtsL ts).map bTr))] 5 := by
  refine tc_intro Tryd.func132 rfl 27 rfl (Nat.le_of_ble_eq_true rfl) (by decide) [] rfl dom3 ?_
  intro w0 E0
  have kOk := k51
  refine am_mv 2 rfl ?_
  refine go ?_
  refine wk ?_
  refine am_tidy [(1, 1), (2, 2), (3, 3), (4, 4)] [0, 6, 7, 8] 5 rfl ?_
  refine go ?_
  refine am_loop (ts.length + 1) ?_
  suffices key : ∀ (d i : Nat) (X : List Int), i + d = ts.length → X ++ txtsL (ts.drop i) = bs ++ txtsL ts → X.length ≤ bs.length + 1034 * i → amR Tryd.prog _ _ _ (d + 1) ⟨[(0, .c (.ptr 1 0)), (6, .c (.own 3 0 ts.length)), (7, int (ts.length : Nat)), (8, int (i : Nat))], [(1, .cells [.own 4 0 X.length]), (3, .arr 9 1 (ts.map sTr)), (4, .arr 5 1 (X.map bTr))], 5⟩ from key ts.length 0 bs (by simp) (by simp) (by simp)
  intro d
  induction d with
  | zero =>
    intro i X hi hX hl
    rw [List.drop_eq_nil_of_le (by omega), txtsL, List.append_nil] at hX
    subst hX
    have hp := (show ((i : Int) < (ts.length : Int)) = False from eq_false (by omega))
    refine amR_succ ?_
    refine wk1 ?_
    refine ret_norm [(1, 1), (2, 2), (3, 3), (4, 4)] rfl ?_ ?_
    · rfl
    · rfl
  | succ d ih =>
    intro i X hi hX hl
    obtain ⟨s, hs0⟩ : ∃ s, ts[i]? = some s := ⟨ts[i]'(by omega), List.getElem?_eq_getElem (by omega)⟩
    rw [txtsL_drop hs0, ← List.append_assoc] at hX
    have hs := ht s (List.mem_of_getElem? hs0)
    have h9 := strL_len s
    have h8 := numL_len s.size
    have ihk := ih (i + 1) (X ++ txtL s) (by omega) hX (by rw [List.length_append]; have := txtL_len s; omega)
    have hp := (show ((i : Int) < (ts.length : Int)) = True ∧ (i < ts.length) = True ∧ (ts.map sTr)[i]? = some [.v (.string s)] ∧ IntKind.i64.wrap ((i : Int) + 1) = ((i + 1 : Nat) : Int) ∧ ((s.size : Int) ≤ 9223372036854775807) = True ∧ (X.length ≤ 1048576) = True ∧ (((X ++ numL s.size) ++ strL s).length ≤ maxLen) = True ∧ (((X ++ numL s.size) ++ strL s).length * 1 ≤ 140737488355328) = True from
      ⟨eq_true (by omega), eq_true (by omega), by rw [List.getElem?_map, hs0]; rfl, by rw [wrapN (by omega) (by omega)]; rfl, eq_true (by omega), eq_true (by omega), eq_true (by unfold maxLen; simp only [List.length_append]; omega), eq_true (by simp only [List.length_append]; omega)⟩)
    refine amR_succ ?_
    refine wk1 ?_
    refine amR_tidy [(1, 1), (2, 2), (3, 3), (7, 4)] [0, 6, 7, 8] 5 rfl ?_
    refine go1 ?_
    refine amR_st ?_ ihk
    simp [txtL]
end Go.Proofs.YtaolgdpkcbfocaaDoorA
