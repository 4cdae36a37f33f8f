/- Logs: what came in. -/
import Derived.Test.YthnpbfljoghbmaaCLawL
namespace Go.Proofs.YthnpbfljoghbmaaA
open Go.Proofs
set_option autoImplicit false
set_option linter.unusedVariables false
theorem op_Ent : OpT Try.prog (fun xs => ∃ c : Ent, xs = c.tr) 163 := by
  refine opT_weak (opT_struct Try.underlying163 (by kernel_rfl) (opT_cons (s := 1) rfl (by kernel_rfl) (opT_int Try.underlying3) (opT_cons (s := 6) rfl (by kernel_rfl) (opT_struct Try.underlying90 (by kernel_rfl) (opT_cons (s := 1) rfl (by kernel_rfl) (opT_int Try.underlying3) (opT_cons (s := 1) rfl (by kernel_rfl) (opT_int Try.underlying3) (opT_cons (s := 1) rfl (by kernel_rfl) (opT_int Try.underlying3) (opT_cons (s := 1) rfl (by kernel_rfl) (opT_string Try.underlying9) (opT_cons (s := 1) rfl (by kernel_rfl) (opT_string Try.underlying9) (opT_cons (s := 1) rfl (by kernel_rfl) (opT_string Try.underlying9) opT_nil))))))) opT_nil))) ?_
  rintro xs ⟨_, _, rfl, ⟨a2, rfl, _⟩, ⟨_, _, rfl, ⟨_, _, rfl, ⟨a4, rfl, _⟩, ⟨_, _, rfl, ⟨a5, rfl, _⟩, ⟨_, _, rfl, ⟨a6, rfl, _⟩, ⟨_, _, rfl, ⟨a7, rfl, _⟩, ⟨_, _, rfl, ⟨a8, rfl, _⟩, ⟨_, _, rfl, ⟨a9, rfl, _⟩, rfl⟩⟩⟩⟩⟩⟩, rfl⟩⟩
  exact ⟨⟨a2, ⟨a4, a5, a6, a7, a8, a9⟩⟩, rfl⟩
theorem op_Ents : OpT Try.prog (fun xs => ∃ cs : List Ent, xs = [.sl 7 (cs.map Ent.tr)] ∧ cs.length ≤ maxLen) 71 :=
  opT_rows (tr := Ent.tr) (sz := 7) Try.underlying71 (by kernel_rfl) (by decide) op_Ent
end Go.Proofs.YthnpbfljoghbmaaA
