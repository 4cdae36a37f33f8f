/- Draws: clients. -/
import Derived.Test.YtgalnkilcajgcaaFDraw5
namespace Go.Proofs.YtgalnkilcajgcaaA
open Go.Proofs
set_option autoImplicit false
set_option linter.unusedVariables false
set_option linter.unusedSimpArgs false
set_option maxRecDepth 4000
theorem cliN_rng {bs : List Int} {a : Int} (hb : okS bs) (h0 : 0 ≤ a) (h1 : a ≤ 1099511610000) : cliN bs a = 3 ∨ cliN bs a = 5 ∨ cliN bs a = 7 := by
  have r := pk_rng (bs := bs) (a := a + 1) (n := 3) hb ⟨by omega, by omega⟩ (by omega)
  unfold cliN
  have w1 : IntKind.i64.wrap (2 * pkF bs (a + 1) 3) = 2 * pkF bs (a + 1) 3 := wrapN (by omega) (by omega)
  rw [w1]
  have w2 : IntKind.i64.wrap (3 + 2 * pkF bs (a + 1) 3) = 3 + 2 * pkF bs (a + 1) 3 := wrapN (by omega) (by omega)
  rw [w2]
  omega
theorem cliP_rng {bs : List Int} {a : Int} (hb : okS bs) (h0 : 0 ≤ a) (h1 : a ≤ 1099511610000) : 1 ≤ cliP bs a ∧ cliP bs a ≤ 6 := by
  have r := pk_rng (bs := bs) (a := a + 1 + 1) (n := 6) hb ⟨by omega, by omega⟩ (by omega)
  unfold cliP
  rw [wrapN (by omega) (by omega)]
  omega
set_option maxHeartbeats 64000000 in
theorem cliD_tc (bs : List Int) (a : Int) (hb : okS bs) (h0 : 0 ≤ a) (h1 : a ≤ 1099511610000) : TC Try.prog 85 [.c (.ptr 1 0)] [(1, .cells [.t (.sl 1 (bs.map bTr)), ci a])] 2 (.agg (cliF bs a).cv) [(1, .cells [.t (.sl 1 (bs.map bTr)), ci (cliA bs a)])] 2 := by
  have ok : ∀ x : Int, 0 ≤ x → x ≤ 1099511615000 → okA x = True ∧ okC bs x = True := fun x hx hy => ⟨eq_true ⟨hx, by omega⟩, eq_true ⟨hb, hx, by omega⟩⟩
  have rn := cliN_rng hb h0 h1
  have rp := cliP_rng hb h0 h1
  have c1 := cmdN_le bs (a + 1 + 1 + 1 + 1 + 1 + 1 + 1)
  have c2 := cmdN_le bs (a + 1 + 1 + 1 + 1 + 1 + 1 + 1 + 1)
  unfold cliN at rn
  unfold cliP at rp
  refine tc_cell tabOk Try.func85 rfl 56 rfl (Nat.le_of_ble_eq_true rfl) (by decide) [(2, some 26)] rfl dom1 ?_
  intro w0 E0
  have kOk := kD6
  have hp := (show okA a = True ∧ okA (a + 1) = True ∧ okA (a + 1 + 1) = True ∧ okA (a + 1 + 1 + 1) = True ∧ okA (a + 1 + 1 + 1 + 1) = True ∧ okA (a + 1 + 1 + 1 + 1 + 1) = True ∧ okA (a + 1 + 1 + 1 + 1 + 1 + 1) = True ∧ okA (a + 1 + 1 + 1 + 1 + 1 + 1 + 1) = True ∧ okC bs (a + 1 + 1 + 1 + 1 + 1 + 1 + 1) = True ∧ okC bs (a + 1 + 1 + 1 + 1 + 1 + 1 + 1 + 1) = True ∧ okA (cmdN bs (a + 1 + 1 + 1 + 1 + 1 + 1 + 1)) = True ∧ okA (cmdN bs (a + 1 + 1 + 1 + 1 + 1 + 1 + 1 + 1)) = True ∧
      (1 ≤ IntKind.i64.wrap (3 + IntKind.i64.wrap (2 * pkF bs (a + 1) 3))) = True ∧ (IntKind.i64.wrap (3 + IntKind.i64.wrap (2 * pkF bs (a + 1) 3)) ≤ 256) = True ∧ (1 ≤ IntKind.i64.wrap (1 + pkF bs (a + 1 + 1) 6)) = True ∧ (IntKind.i64.wrap (1 + pkF bs (a + 1 + 1) 6) ≤ 256) = True from
    ⟨(ok _ (by omega) (by omega)).1, (ok _ (by omega) (by omega)).1, (ok _ (by omega) (by omega)).1, (ok _ (by omega) (by omega)).1, (ok _ (by omega) (by omega)).1, (ok _ (by omega) (by omega)).1, (ok _ (by omega) (by omega)).1, (ok _ (by omega) (by omega)).1, (ok _ (by omega) (by omega)).2, (ok _ (by omega) (by omega)).2, (ok _ (by omega) (by omega)).1, (ok _ (by omega) (by omega)).1,
      eq_true (by omega), eq_true (by omega), eq_true (by omega), eq_true (by omega)⟩)
  repeat' (fail_if_success (with_reducible apply amR_id)); first
    | (refine guardP_mk (fun h => ?_) (fun h => ?_) <;> (refine go1 ?_; try simp only [decide_eq_true_eq, decide_eq_false_iff_not, Bool.not_true, Bool.not_false, Bool.not_eq_true', Bool.not_eq_false', beq_iff_eq, bne_iff_ne, beq_eq_false_iff_ne, bne_eq_false_iff_eq, ne_eq, Bool.false_eq_true, reduceCtorEq] at h))
    | (refine hK _ ?_; clear hK K Q1)
    | (refine hK _ _ rfl ?_; clear hK K; try refine go1 ?_)
    | (refine am_retC [(1, 1)] rfl ?_ rfl rfl; first | refine go ?_ | rfl)
    | (refine am_retB [(1, 1)] rfl ?_ ?_ rfl <;> first | refine go ?_ | rfl)
    | (refine wkq ?_)
    | (refine am_rs tabOk kOk rfl fun K Q1 hK => ?_; refine go1 ?_)
    | (refine am_ds mixed tabOk kOk rfl rfl fun K hK => ?_; refine go1 ?_)
    | (refine am_dreg mixed tabOk kOk rfl rfl fun K hK => ?_; refine go1 ?_)
  all_goals (clear hp ok; (try unfold Cl.cv); (try unfold cliF); (try unfold cliA); (try unfold cliS); (try unfold cliB); (try unfold cliN); (try unfold cliP); first | (simp_all; done) | (simp (disch := first | assumption | omega) only [if_pos, if_neg]; refine am_retC [(1, 1)] rfl ?_ rfl rfl; first | rfl | (refine go ?_; rfl) | refine go ?_) | skip)
end Go.Proofs.YtgalnkilcajgcaaA
