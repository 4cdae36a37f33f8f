/- Draws: replies, clients. -/
import Derived.Test.YtgalnkilcajgcaaFDraw4
import Derived.Test.YtgalnkilcajgcaaFStepS2
namespace Go.Proofs.YtgalnkilcajgcaaA
open Go.Proofs
set_option autoImplicit false
set_option linter.unusedVariables false
set_option linter.unusedSimpArgs false
set_option maxRecDepth 4000
def repSt (bs : List Int) (a : Int) : Int := IntKind.i64.wrap (1 + pkF bs (a + 1 + 1) 2)
def repF (bs : List Int) (a : Int) : Rp :=
  ⟨IntKind.i64.wrap (1 + pkF bs a 8), if pkF bs (a + 1 + 1 + 1) 10 = 0 then 1073741824 else IntKind.i64.wrap (1 + pkF bs (a + 1) 6), repSt bs a,
    if repSt bs a = 1 then IntKind.i64.wrap (1 + pkF bs (a + 1 + 1 + 1 + 1) 4) else 0, if repSt bs a = 1 then wordF bs (a + 1 + 1 + 1 + 1 + 1) true else ⟨#[]⟩, if repSt bs a = 1 then 0 else pkF bs (a + 1 + 1 + 1 + 1) 8⟩
def repN (bs : List Int) (a : Int) : Int := if repSt bs a = 1 then wordN bs (a + 1 + 1 + 1 + 1 + 1) true else a + 1 + 1 + 1 + 1 + 1
theorem repN_le (bs : List Int) (a : Int) : a + 1 ≤ repN bs a ∧ repN bs a ≤ a + 8 := by
  have h1 := wordN_le bs (a + 1 + 1 + 1 + 1 + 1) true
  unfold repN
  split <;> omega
set_option maxHeartbeats 32000000 in
theorem repD_tc (bs : List Int) (a : Int) (hb : okS bs) (h0 : 0 ≤ a) (h1 : a ≤ 1099511620000) : TC Try.prog 89 [.c (.ptr 1 0)] [(1, .cells [.t (.sl 1 (bs.map bTr)), ci a])] 2 (.agg (repF bs a).cv) [(1, .cells [.t (.sl 1 (bs.map bTr)), ci (repN bs a)])] 2 := by
  have ok : ∀ x : Int, 0 ≤ x → x ≤ 1099511627000 → okA x = True ∧ okW bs x = True := fun x hx hy => ⟨eq_true ⟨hx, by omega⟩, eq_true ⟨hb, hx, hy⟩⟩
  refine tc_cell tabOk Try.func89 rfl 32 rfl (Nat.le_of_ble_eq_true rfl) (by decide) [(2, some 34)] rfl dom1 ?_
  intro w0 E0
  have kOk := kD5
  have hp := (show okA a = True ∧ okA (a + 1) = True ∧ okA (a + 1 + 1) = True ∧ okA (a + 1 + 1 + 1) = True ∧ okA (a + 1 + 1 + 1 + 1) = True ∧ okW bs (a + 1 + 1 + 1 + 1 + 1) = True from
    ⟨(ok _ (by omega) (by omega)).1, (ok _ (by omega) (by omega)).1, (ok _ (by omega) (by omega)).1, (ok _ (by omega) (by omega)).1, (ok _ (by omega) (by omega)).1, (ok _ (by omega) (by omega)).2⟩)
  repeat' (fail_if_success (with_reducible apply amR_id)); first
    | (refine guardP_mk (fun h => ?_) (fun h => ?_) <;> (refine go1 ?_; try simp only [decide_eq_true_eq, decide_eq_false_iff_not, Bool.not_true, Bool.not_false, Bool.not_eq_true', Bool.not_eq_false', beq_iff_eq, bne_iff_ne, beq_eq_false_iff_ne, bne_eq_false_iff_eq, ne_eq, Bool.false_eq_true, reduceCtorEq] at h))
    | (refine hK _ ?_; clear hK K Q1)
    | (refine hK _ _ rfl ?_; clear hK K; try refine go1 ?_)
    | (refine am_retC [(1, 1)] rfl ?_ rfl rfl; first | refine go ?_ | rfl)
    | (refine am_retB [(1, 1)] rfl ?_ ?_ rfl <;> first | refine go ?_ | rfl)
    | (refine wkq ?_)
    | (refine am_rs tabOk kOk rfl fun K Q1 hK => ?_; refine go1 ?_)
    | (refine am_ds mixed tabOk kOk rfl rfl fun K hK => ?_; refine go1 ?_)
    | (refine am_dreg mixed tabOk kOk rfl rfl fun K hK => ?_; refine go1 ?_)
  all_goals first | (exfalso; omega) | (clear hp ok; (try unfold Rp.cv); (try unfold repF); (try unfold repN); (try unfold repSt); simp (disch := first | assumption | omega) only [if_pos, if_neg]; refine am_retC [(1, 1)] rfl ?_ rfl rfl; first | refine go ?_ | rfl)
/-- Where a command may be drawn. -/
def okC (bs : List Int) (a : Int) : Prop := okS bs ∧ 0 ≤ a ∧ a ≤ 1099511620000
instance (bs : List Int) (a : Int) : Decidable (okC bs a) := inferInstanceAs (Decidable (_ ∧ _ ∧ _))
def kd6_0_1 (a : Int) (bs : List Int) : CB := if okC bs a then some (.agg (cmdF bs a).cv, [(1, .cells [.t (.sl 1 (bs.map bTr)), ci (cmdN bs a)])], 2) else none
def kd6_0_0 (a : Int) (r0 : List (List Tree)) : CB := (unBys r0).bind (kd6_0_1 a)
def kd6_0 : List TV → List (Nat × AObj) → CB
  | [.c (.ptr 1 0)], [(1, .cells [.t (.sl 1 r0), .t (.v (.int .i64 a))])] => kd6_0_0 a r0
  | _, _ => none
def kd6_1_1 (a : Int) (bs : List Int) : CB := if okC bs a then some (.agg (repF bs a).cv, [(1, .cells [.t (.sl 1 (bs.map bTr)), ci (repN bs a)])], 2) else none
def kd6_1_0 (a : Int) (r0 : List (List Tree)) : CB := (unBys r0).bind (kd6_1_1 a)
def kd6_1 : List TV → List (Nat × AObj) → CB
  | [.c (.ptr 1 0)], [(1, .cells [.t (.sl 1 r0), .t (.v (.int .i64 a))])] => kd6_1_0 a r0
  | _, _ => none
def kd6_call (f : FuncId) (args : List TV) (o : List (Nat × AObj)) : CB := if f = 88 then orO (kd6_0 args o) (kd5.callB f args o) else if f = 89 then orO (kd6_1 args o) (kd5.callB f args o) else kd5.callB f args o
def kd6 : Kn := { call := kd5.call, eqs := eqTys, callB := kd6_call }
attribute [go_sem] kd6_0_0 kd6_0_1 kd6_0 kd6_1_0 kd6_1_1 kd6_1 kd6_call kd6
theorem kd6_ok : ∀ f args o res o1 n1, kd6_call f args o = some (res, o1, n1) → TC Try.prog f args o (o.length + 1) res o1 n1 := by
  intro f args o res o1 n1 h
  unfold kd6_call at h
  split at h
  · rename_i e; subst e
    have hh := orO_elim h
    clear h
    rcases hh with h | h
    rotate_left
    · exact kD5.callB _ _ _ _ _ _ h
    unfold kd6_0 at h
    split at h
    · rename_i r0 a; unfold kd6_0_0 at h
      have hb0 := Option.bind_eq_some_iff.1 h
      clear h
      obtain ⟨bs, e0, h⟩ := hb0
      unfold kd6_0_1 at h
      split at h
      · rename_i hc; cases h; rw [unBys_ok e0]; exact cmdD_tc bs a hc.1 hc.2.1 hc.2.2
      · cases h
    · cases h
  split at h
  · rename_i e; subst e
    have hh := orO_elim h
    clear h
    rcases hh with h | h
    rotate_left
    · exact kD5.callB _ _ _ _ _ _ h
    unfold kd6_1 at h
    split at h
    · rename_i r0 a; unfold kd6_1_0 at h
      have hb0 := Option.bind_eq_some_iff.1 h
      clear h
      obtain ⟨bs, e0, h⟩ := hb0
      unfold kd6_1_1 at h
      split at h
      · rename_i hc; cases h; rw [unBys_ok e0]; exact repD_tc bs a hc.1 hc.2.1 hc.2.2
      · cases h
    · cases h
  · exact kD5.callB f args o res o1 n1 h
theorem kD6 : KnOk Try.prog kd6 := ⟨kD5.call, eqTysOk, kd6_ok⟩
attribute [go_sem] Cm.cv Rp.cv
def cliN (bs : List Int) (a : Int) : Int := IntKind.i64.wrap (3 + IntKind.i64.wrap (2 * pkF bs (a + 1) 3))
def cliP (bs : List Int) (a : Int) : Int := IntKind.i64.wrap (1 + pkF bs (a + 1 + 1) 6)
def cliB (bs : List Int) (a : Int) : Int := if pkF bs (a + 1 + 1 + 1 + 1 + 1) 14 = 0 then a + 1 + 1 + 1 + 1 + 1 + 1 + 1 else a + 1 + 1 + 1 + 1 + 1 + 1
def cliS (bs : List Int) (a : Int) : Int := if pkF bs (a + 1 + 1 + 1 + 1 + 1) 14 = 0 then IntKind.i64.wrap (1073741824 - pkF bs (a + 1 + 1 + 1 + 1 + 1 + 1) 2) else pkF bs (a + 1 + 1 + 1) 9
def cliF (bs : List Int) (a : Int) : Cl :=
  if cliS bs a > 0 ∧ pkF bs (cliB bs a) 3 ≠ 0 then ⟨IntKind.i64.wrap (1 + pkF bs a 8), cliN bs a, cliP bs a, cliS bs a, 1, IntKind.i64.wrap (1 + pkF bs (a + 1 + 1 + 1 + 1) (cliN bs a)), pkF bs (cmdN bs (cliB bs a + 1)) (cliP bs a), { cmdF bs (cliB bs a + 1) with cl := IntKind.i64.wrap (1 + pkF bs a 8), sq := cliS bs a }⟩
  else ⟨IntKind.i64.wrap (1 + pkF bs a 8), cliN bs a, cliP bs a, cliS bs a, 0, IntKind.i64.wrap (1 + pkF bs (a + 1 + 1 + 1 + 1) (cliN bs a)), 0, cm0⟩
def cliA (bs : List Int) (a : Int) : Int := if cliS bs a > 0 then (if pkF bs (cliB bs a) 3 ≠ 0 then cmdN bs (cliB bs a + 1) + 1 else cliB bs a + 1) else cliB bs a
end Go.Proofs.YtgalnkilcajgcaaA
