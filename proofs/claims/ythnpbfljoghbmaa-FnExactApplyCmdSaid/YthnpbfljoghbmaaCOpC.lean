/- Tables and commands: what came in. -/
import Derived.Test.YthnpbfljoghbmaaCLawC
namespace Go.Proofs.YthnpbfljoghbmaaA
open Go.Proofs
set_option autoImplicit false
set_option linter.unusedVariables false
theorem rowsOk {X : Type} {tr : X → List Tree} {ok : X → Prop} {sz : Nat} : ∀ {l : List (List Tree)}, (∀ x, x ∈ l → x.length = sz ∧ ∃ c : X, x = tr c ∧ ok c) → ∃ cs : List X, l = cs.map tr ∧ ∀ c, c ∈ cs → ok c
  | [], _ => ⟨[], rfl, fun c hc => by cases hc⟩
  | x :: l, h => by
    obtain ⟨c, rfl, hc⟩ := (h x List.mem_cons_self).2
    obtain ⟨cs, rfl, hcs⟩ := rowsOk (tr := tr) (ok := ok) (sz := sz) (l := l) fun y hy => h y (List.mem_cons_of_mem _ hy)
    exact ⟨c :: cs, rfl, fun d hd => (List.mem_cons.1 hd).elim (fun e => e ▸ hc) (hcs d)⟩
theorem opT_rowsOk {P : Program} {t e : TypeId} {X : Type} {tr : X → List Tree} {ok : X → Prop} {sz : Nat} (ht : P.underlying t = some (.slice e)) (hc : P.cellsOf e = sz) (hpos : 0 < sz) (ho : OpT P (fun xs => ∃ c : X, xs = tr c ∧ ok c) e) : OpT P (fun xs => ∃ cs : List X, xs = [.sl sz (cs.map tr)] ∧ cs.length ≤ maxLen ∧ ∀ c, c ∈ cs → ok c) t := by
  refine opT_weak (opT_slice ht hc hpos ho) ?_
  rintro xs ⟨l, rfl, h1, h2⟩
  obtain ⟨cs, rfl, hcs⟩ := rowsOk h2
  exact ⟨cs, rfl, by simpa using h1, hcs⟩
theorem op_Prk : OpT Try.prog (fun xs => ∃ c : Pr, xs = c.tr ∧ c.ok) 219 := by
  refine opT_weak (opT_struct Try.underlying219 (by kernel_rfl) (opT_cons (s := 1) rfl (by kernel_rfl) (opT_string Try.underlying9) (opT_cons (s := 1) rfl (by kernel_rfl) (opT_string Try.underlying9) opT_nil))) ?_
  rintro xs ⟨_, _, rfl, ⟨a2, rfl, ha2⟩, ⟨_, _, rfl, ⟨a3, rfl, ha3⟩, rfl⟩⟩
  exact ⟨⟨a2, a3⟩, rfl, ha2, ha3⟩
theorem op_Ss : OpT Try.prog (fun xs => ∃ c : Ss, xs = c.tr) 221 := by
  refine opT_weak (opT_struct Try.underlying221 (by kernel_rfl) (opT_cons (s := 1) rfl (by kernel_rfl) (opT_int Try.underlying3) (opT_cons (s := 1) rfl (by kernel_rfl) (opT_int Try.underlying3) (opT_cons (s := 1) rfl (by kernel_rfl) (opT_int Try.underlying3) (opT_cons (s := 1) rfl (by kernel_rfl) (opT_string Try.underlying9) opT_nil))))) ?_
  rintro xs ⟨_, _, rfl, ⟨a2, rfl, _⟩, ⟨_, _, rfl, ⟨a3, rfl, _⟩, ⟨_, _, rfl, ⟨a4, rfl, _⟩, ⟨_, _, rfl, ⟨a5, rfl, _⟩, rfl⟩⟩⟩⟩
  exact ⟨⟨a2, a3, a4, a5⟩, rfl⟩
theorem op_Tb : OpT Try.prog (fun xs => ∃ c : Tb, xs.map CV.t = c.cv ∧ (∀ e, e ∈ c.ps → e.ok) ∧ c.ps.length ≤ maxLen ∧ c.ss.length ≤ maxLen) 88 := by
  refine opT_weak (opT_struct Try.underlying88 (by kernel_rfl) (opT_cons (s := 1) rfl (by kernel_rfl) (opT_rowsOk (tr := Pr.tr) (ok := Pr.ok) (sz := 2) Try.underlying85 (by kernel_rfl) (by decide) op_Prk) (opT_cons (s := 1) rfl (by kernel_rfl) (opT_rows (tr := Ss.tr) (sz := 4) Try.underlying86 (by kernel_rfl) (by decide) op_Ss) opT_nil))) ?_
  rintro xs ⟨_, _, rfl, ⟨a2, rfl, ha2, oa2⟩, ⟨_, _, rfl, ⟨a3, rfl, ha3⟩, rfl⟩⟩
  exact ⟨⟨a2, a3⟩, rfl, oa2, ha2, ha3⟩
theorem op_Cm : OpT Try.prog (fun xs => ∃ c : Cm, xs.map CV.t = c.cv) 90 := by
  refine opT_weak (opT_struct Try.underlying90 (by kernel_rfl) (opT_cons (s := 1) rfl (by kernel_rfl) (opT_int Try.underlying3) (opT_cons (s := 1) rfl (by kernel_rfl) (opT_int Try.underlying3) (opT_cons (s := 1) rfl (by kernel_rfl) (opT_int Try.underlying3) (opT_cons (s := 1) rfl (by kernel_rfl) (opT_string Try.underlying9) (opT_cons (s := 1) rfl (by kernel_rfl) (opT_string Try.underlying9) (opT_cons (s := 1) rfl (by kernel_rfl) (opT_string Try.underlying9) opT_nil))))))) ?_
  rintro xs ⟨_, _, rfl, ⟨a2, rfl, _⟩, ⟨_, _, rfl, ⟨a3, rfl, _⟩, ⟨_, _, rfl, ⟨a4, rfl, _⟩, ⟨_, _, rfl, ⟨a5, rfl, _⟩, ⟨_, _, rfl, ⟨a6, rfl, _⟩, ⟨_, _, rfl, ⟨a7, rfl, _⟩, rfl⟩⟩⟩⟩⟩⟩
  exact ⟨⟨a2, a3, a4, a5, a6, a7⟩, rfl⟩
theorem lawCmd (t : Tb) (c : Cm) (h : (∀ e, e ∈ t.ps → e.ok) ∧ t.ps.length ≤ maxLen ∧ t.ss.length ≤ maxLen) : TC Try.prog 9 [.agg t.cv, .agg c.cv] [] 1 (bool true) [] 1 :=
  lawCmd_tc t c h.1 h.2.1 h.2.2
end Go.Proofs.YthnpbfljoghbmaaA
