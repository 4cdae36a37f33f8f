/- A new node: what came in. -/
import Derived.Test.YtgalnkilcajgcaaFNewLaw
namespace Go.Proofs.YtgalnkilcajgcaaA
open Go.Proofs
set_option autoImplicit false
set_option linter.unusedVariables false
theorem op_Ent : OpT Try.prog (fun xs => ∃ c : Ent, xs = c.tr) 229 := by
  refine opT_weak (opT_struct Try.underlying229 (by kernel_rfl) (opT_cons (s := 1) rfl (by kernel_rfl) (opT_int Try.underlying3) (opT_cons (s := 6) rfl (by kernel_rfl) (opT_struct Try.underlying38 (by kernel_rfl) (opT_cons (s := 1) rfl (by kernel_rfl) (opT_int Try.underlying3) (opT_cons (s := 1) rfl (by kernel_rfl) (opT_int Try.underlying3) (opT_cons (s := 1) rfl (by kernel_rfl) (opT_int Try.underlying3) (opT_cons (s := 1) rfl (by kernel_rfl) (opT_string Try.underlying9) (opT_cons (s := 1) rfl (by kernel_rfl) (opT_string Try.underlying9) (opT_cons (s := 1) rfl (by kernel_rfl) (opT_string Try.underlying9) opT_nil))))))) opT_nil))) ?_
  rintro xs ⟨_, _, rfl, ⟨a2, rfl, _⟩, ⟨_, _, rfl, ⟨_, _, rfl, ⟨a4, rfl, _⟩, ⟨_, _, rfl, ⟨a5, rfl, _⟩, ⟨_, _, rfl, ⟨a6, rfl, _⟩, ⟨_, _, rfl, ⟨a7, rfl, _⟩, ⟨_, _, rfl, ⟨a8, rfl, _⟩, ⟨_, _, rfl, ⟨a9, rfl, _⟩, rfl⟩⟩⟩⟩⟩⟩, rfl⟩⟩
  exact ⟨⟨a2, ⟨a4, a5, a6, a7, a8, a9⟩⟩, rfl⟩
theorem op_Stb : OpT Try.prog (fun xs => ∃ c : Stb, xs.map CV.t = c.cv ∧ c.log.length ≤ maxLen) 84 := by
  refine opT_weak (opT_struct Try.underlying84 (by kernel_rfl) (opT_cons (s := 1) rfl (by kernel_rfl) (opT_int Try.underlying3) (opT_cons (s := 1) rfl (by kernel_rfl) (opT_int Try.underlying3) (opT_cons (s := 1) rfl (by kernel_rfl) (opT_rows (tr := Ent.tr) (sz := 7) Try.underlying82 (by kernel_rfl) (by decide) op_Ent) opT_nil)))) ?_
  rintro xs ⟨_, _, rfl, ⟨a2, rfl, _⟩, ⟨_, _, rfl, ⟨a3, rfl, _⟩, ⟨_, _, rfl, ⟨a4, rfl, ha4⟩, rfl⟩⟩⟩
  exact ⟨⟨a2, a3, a4⟩, rfl, ha4⟩
end Go.Proofs.YtgalnkilcajgcaaA
