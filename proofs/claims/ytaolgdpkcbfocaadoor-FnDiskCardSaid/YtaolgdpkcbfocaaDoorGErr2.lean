/- The one error that is laid: read, and asked for. -/
import Derived.Test.YtaolgdpkcbfocaaDoorGErr
import Derived.Test.YtaolgdpkcbfocaaDoorFBase
namespace Go.Proofs.YtaolgdpkcbfocaaDoorA
open Go.Proofs
set_option autoImplicit false
set_option linter.unusedVariables false
section
variable {P : Program} {Γ : Nat → Option Row} {C : Ctx} {Q : Exit → St → Prop} {st : St} {o : Oper} {K : St → Prop}
/-- The laid error, loaded. -/
theorem amOp_gload (hΓ : TabOk P Γ) {t : TypeId} {x : Operand} {r : Row} (ho : o.op = .load t x) (ht : Γ t = some r) (hr1 : r.k.isRow = false) (hx : st.eval x = .c (.t (.v (.pointer (some ⟨0, 0, none⟩))))) (hd : dstOk C.n o = true) (hK : K (st.put o.dst (.c (.gv 0 0)))) : amOp P C o Q K st := by
  refine amOp_pure hd hK fun E a w hr => ?_
  have hpre : Pre w E := Pre.later hr.fc fun _ _ h => h
  obtain ⟨_, _, ⟨q, h1⟩, h2, h3⟩ := hpre
  have hxx : a.eval x = .pointer (some ⟨0, 0, none⟩) := hr.lit hx
  have hrow := hΓ t r ht
  obtain ⟨D, hD, hDr⟩ := row_isAgg hrow
  have hagg : (isAgg t).run P w = .ok false w := by rw [run_isAgg hD, hDr, hr1]
  refine ⟨.iface 186 (.pointer (some q)), ?_, h2, h1, rfl⟩
  simp [execOp, ho, hxx, Instr.loadAt, Instr.sureAddr, loadVar, hagg, h1]
end
theorem isT_tc : TC Tryd.prog 73 [.c (.gv 0 0), .c (.gv 0 0)] [] 1 (bool true) [] 1 := by
  refine ⟨⟨_, Tryd.func73, by kernel_rfl, rfl⟩, fun E w vs hvs hobjs hnext hzero hfresh hown hpre => ?_⟩
  obtain ⟨_, _, ⟨q, h1⟩, h2, h3⟩ := id hpre
  match vs, hvs with
  | [v1, v2], ⟨g1, g2, _⟩ =>
    obtain ⟨_, e1, _⟩ := rtC g1
    obtain ⟨_, e2, _⟩ := rtC g2
    rw [h1] at e1 e2
    cases e1
    cases e2
    refine (is_same q w).mono ?_
    rintro e w' ⟨rfl, rfl⟩
    exact ⟨_, E, rfl, .v _ rfl, ⟨hpre, rfl, rfl, rfl, Nat.le_refl _, fun _ _ h => h, fun b hb => ⟨fun _ => rfl, fun cur ty fr hx => ⟨cur, hx, rfl, fun _ _ => rfl⟩⟩, fun _ _ _ _ => rfl, hfresh, fun b o he => he⟩, (fun id x hx => by cases hx), hnext, hzero⟩
theorem isF_tc : TC Tryd.prog 73 [lit .nilIface, .c (.gv 0 0)] [] 1 (bool false) [] 1 := by
  refine ⟨⟨_, Tryd.func73, by kernel_rfl, rfl⟩, fun E w vs hvs hobjs hnext hzero hfresh hown hpre => ?_⟩
  obtain ⟨_, _, ⟨q, h1⟩, h2, h3⟩ := id hpre
  match vs, hvs with
  | [v1, v2], ⟨g1, g2, _⟩ =>
    have e1 := ro_v (rtT g1)
    obtain ⟨_, e2, _⟩ := rtC g2
    rw [h1] at e2
    cases e2
    subst e1
    refine (is_nil q w).mono ?_
    rintro e w' ⟨rfl, rfl⟩
    exact ⟨_, E, rfl, .v _ rfl, ⟨hpre, rfl, rfl, rfl, Nat.le_refl _, fun _ _ h => h, fun b hb => ⟨fun _ => rfl, fun cur ty fr hx => ⟨cur, hx, rfl, fun _ _ => rfl⟩⟩, fun _ _ _ _ => rfl, hfresh, fun b o he => he⟩, (fun id x hx => by cases hx), hnext, hzero⟩
end Go.Proofs.YtaolgdpkcbfocaaDoorA
