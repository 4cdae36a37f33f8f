/- Draws: commands. -/
import Derived.Test.YtgalnkilcajgcaaFDraw3
namespace Go.Proofs.YtgalnkilcajgcaaA
open Go.Proofs
set_option autoImplicit false
set_option linter.unusedVariables false
set_option linter.unusedSimpArgs false
set_option maxRecDepth 4000
/-- Where a word may be drawn. -/
def okW (bs : List Int) (a : Int) : Prop := okS bs ∧ 0 ≤ a ∧ a ≤ 1099511627000
instance (bs : List Int) : Decidable (okS bs) := inferInstanceAs (Decidable ((∀ n, n ∈ bs → 0 ≤ n ∧ n ≤ 255) ∧ _))
instance (bs : List Int) (a : Int) : Decidable (okW bs a) := inferInstanceAs (Decidable (_ ∧ _ ∧ _))
def kd5_0_1 (e : Bool) (a : Int) (bs : List Int) : CB := if okW bs a then some (str (wordF bs a e), [(1, .cells [.t (.sl 1 (bs.map bTr)), ci (wordN bs a e)])], 2) else none
def kd5_0_0 (e : Bool) (a : Int) (r0 : List (List Tree)) : CB := (unBys r0).bind (kd5_0_1 e a)
def kd5_0 : List TV → List (Nat × AObj) → CB
  | [.c (.ptr 1 0), .c (.t (.v (.bool e)))], [(1, .cells [.t (.sl 1 r0), .t (.v (.int .i64 a))])] => kd5_0_0 e a r0
  | _, _ => none
def kd5_call (f : FuncId) (args : List TV) (o : List (Nat × AObj)) : CB := if f = 190 then orO (kd5_0 args o) (kd4.callB f args o) else kd4.callB f args o
def kd5 : Kn := { call := kd4.call, eqs := eqTys, callB := kd5_call }
attribute [go_sem] kd5_0_0 kd5_0_1 kd5_0 kd5_call kd5
theorem kd5_ok : ∀ f args o res o1 n1, kd5_call f args o = some (res, o1, n1) → TC Try.prog f args o (o.length + 1) res o1 n1 := by
  intro f args o res o1 n1 h
  unfold kd5_call at h
  split at h
  · rename_i e; subst e
    have hh := orO_elim h
    clear h
    rcases hh with h | h
    rotate_left
    · exact kD4.callB _ _ _ _ _ _ h
    unfold kd5_0 at h
    split at h
    · rename_i e r0 a; unfold kd5_0_0 at h
      have hb0 := Option.bind_eq_some_iff.1 h
      clear h
      obtain ⟨bs, e0, h⟩ := hb0
      unfold kd5_0_1 at h
      split at h
      · rename_i hc; cases h; rw [unBys_ok e0]; exact word_tc bs a e hc.1 hc.2.1 hc.2.2
      · cases h
    · cases h
  · exact kD4.callB f args o res o1 n1 h
theorem kD5 : KnOk Try.prog kd5 := ⟨kD4.call, eqTysOk, kd5_ok⟩
def cmdOp (bs : List Int) (a : Int) : Int := IntKind.i64.wrap (1 + pkF bs (a + 1 + 1) 4)
/-- Behind the key. -/
def cmdA (bs : List Int) (a : Int) : Int := wordN bs (a + 1 + 1 + 1) false
def cmdB (bs : List Int) (a : Int) : Int := if pkF bs (cmdA bs a) 12 = 0 then cmdA bs a + 1 + 1 else cmdA bs a + 1
def cmdF (bs : List Int) (a : Int) : Cm :=
  ⟨IntKind.i64.wrap (1 + pkF bs a 8), if pkF bs (cmdA bs a) 12 = 0 then IntKind.i64.wrap (1073741824 - pkF bs (cmdA bs a + 1) 2) else IntKind.i64.wrap (1 + pkF bs (a + 1) 6), cmdOp bs a, wordF bs (a + 1 + 1 + 1) false,
    if cmdOp bs a = 2 ∨ cmdOp bs a = 4 then wordF bs (cmdB bs a) true else ⟨#[]⟩, if cmdOp bs a = 4 then wordF bs (wordN bs (cmdB bs a) true) true else ⟨#[]⟩⟩
def cmdN (bs : List Int) (a : Int) : Int := if cmdOp bs a = 4 then wordN bs (wordN bs (cmdB bs a) true) true else if cmdOp bs a = 2 then wordN bs (cmdB bs a) true else cmdB bs a
theorem cmdN_le (bs : List Int) (a : Int) : a + 1 ≤ cmdN bs a ∧ cmdN bs a ≤ a + 14 := by
  have h1 := wordN_le bs (a + 1 + 1 + 1) false
  have h2 := wordN_le bs (cmdB bs a) true
  have h3 := wordN_le bs (wordN bs (cmdB bs a) true) true
  have h4 : cmdA bs a + 1 ≤ cmdB bs a ∧ cmdB bs a ≤ cmdA bs a + 2 := by unfold cmdB; split <;> omega
  have h5 : cmdA bs a = wordN bs (a + 1 + 1 + 1) false := rfl
  unfold cmdN
  (repeat' split) <;> omega
set_option maxHeartbeats 32000000 in
theorem cmdD_tc (bs : List Int) (a : Int) (hb : okS bs) (h0 : 0 ≤ a) (h1 : a ≤ 1099511620000) : TC Try.prog 88 [.c (.ptr 1 0)] [(1, .cells [.t (.sl 1 (bs.map bTr)), ci a])] 2 (.agg (cmdF bs a).cv) [(1, .cells [.t (.sl 1 (bs.map bTr)), ci (cmdN bs a)])] 2 := by
  have w1 := wordN_le bs (a + 1 + 1 + 1) false
  have w2 := wordN_le bs (wordN bs (a + 1 + 1 + 1) false + 1) true
  have w3 := wordN_le bs (wordN bs (a + 1 + 1 + 1) false + 1 + 1) true
  have ok : ∀ x : Int, 0 ≤ x → x ≤ 1099511627000 → okA x = True ∧ okW bs x = True := fun x hx hy => ⟨eq_true ⟨hx, by omega⟩, eq_true ⟨hb, hx, hy⟩⟩
  refine tc_cell tabOk Try.func88 rfl 41 rfl (Nat.le_of_ble_eq_true rfl) (by decide) [(2, some 24)] rfl dom1 ?_
  intro w0 E0
  have kOk := kD5
  have hp := (show okA a = True ∧ okA (a + 1) = True ∧ okA (a + 1 + 1) = True ∧ okW bs (a + 1 + 1 + 1) = True ∧ okA (wordN bs (a + 1 + 1 + 1) false) = True ∧ okA (wordN bs (a + 1 + 1 + 1) false + 1) = True ∧ okW bs (wordN bs (a + 1 + 1 + 1) false + 1) = True ∧ okW bs (wordN bs (a + 1 + 1 + 1) false + 1 + 1) = True ∧ okW bs (wordN bs (wordN bs (a + 1 + 1 + 1) false + 1) true) = True ∧ okW bs (wordN bs (wordN bs (a + 1 + 1 + 1) false + 1 + 1) true) = True from
    ⟨(ok _ (by omega) (by omega)).1, (ok _ (by omega) (by omega)).1, (ok _ (by omega) (by omega)).1, (ok _ (by omega) (by omega)).2, (ok _ (by omega) (by omega)).1, (ok _ (by omega) (by omega)).1, (ok _ (by omega) (by omega)).2, (ok _ (by omega) (by omega)).2, (ok _ (by omega) (by omega)).2, (ok _ (by omega) (by omega)).2⟩)
  repeat' (fail_if_success (with_reducible apply amR_id)); first
    | (refine guardP_mk (fun h => ?_) (fun h => ?_) <;> (refine go1 ?_; try simp only [decide_eq_true_eq, decide_eq_false_iff_not, Bool.not_true, Bool.not_false, Bool.not_eq_true', Bool.not_eq_false', beq_iff_eq, bne_iff_ne, beq_eq_false_iff_ne, bne_eq_false_iff_eq, ne_eq, Bool.false_eq_true, reduceCtorEq] at h))
    | (refine hK _ ?_; clear hK K Q1)
    | (refine hK _ _ rfl ?_; clear hK K; try refine go1 ?_)
    | (refine am_retC [(1, 1)] rfl ?_ rfl rfl; first | refine go ?_ | rfl)
    | (refine am_retB [(1, 1)] rfl ?_ ?_ rfl <;> first | refine go ?_ | rfl)
    | (refine wkq ?_)
    | (refine am_rs tabOk kOk rfl fun K Q1 hK => ?_; refine go1 ?_)
    | (refine am_ds mixed tabOk kOk rfl rfl fun K hK => ?_; refine go1 ?_)
    | (refine am_dreg mixed tabOk kOk rfl rfl fun K hK => ?_; refine go1 ?_)
  all_goals first | (exfalso; omega) | (clear hp ok; (try unfold Cm.cv); (try unfold cmdF); (try unfold cmdN); (try unfold cmdB); (try unfold cmdA); (try unfold cmdOp); simp (disch := first | assumption | omega) only [if_pos, if_neg]; refine am_retC [(1, 1)] rfl ?_ rfl rfl; first | refine go ?_ | rfl)
end Go.Proofs.YtgalnkilcajgcaaA
