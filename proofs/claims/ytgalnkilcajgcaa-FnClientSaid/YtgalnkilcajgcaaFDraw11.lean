/- Clients: what the law reads, told as bytes. -/
import Derived.Test.YtgalnkilcajgcaaFDraw10
import Derived.Test.YtgalnkilcajgcaaFOpen
namespace Go.Proofs.YtgalnkilcajgcaaA
open Go.Proofs
set_option autoImplicit false
set_option linter.unusedVariables false
theorem rowsOkD {X : Type} {tr : X → List Tree} {ok : X → Prop} {sz : Nat} : ∀ {l : List (List Tree)}, (∀ x, x ∈ l → x.length = sz ∧ ∃ c : X, x = tr c ∧ ok c) → ∃ cs : List X, l = cs.map tr ∧ ∀ c, c ∈ cs → ok c
  | [], _ => ⟨[], rfl, fun c hc => by cases hc⟩
  | x :: l, h => by
    obtain ⟨c, rfl, hc⟩ := (h x List.mem_cons_self).2
    obtain ⟨cs, rfl, hcs⟩ := rowsOkD (tr := tr) (ok := ok) (sz := sz) (l := l) fun y hy => h y (List.mem_cons_of_mem _ hy)
    exact ⟨c :: cs, rfl, fun d hd => (List.mem_cons.1 hd).elim (fun e => e ▸ hc) (hcs d)⟩
theorem opT_bytes {P : Program} {t e : TypeId} (ht : P.underlying t = some (.slice e)) (he : P.underlying e = some (.int .u8)) (hc : P.cellsOf e = 1) : OpT P (fun xs => ∃ cs : List Int, xs = [.sl 1 (cs.map bTr)] ∧ (∀ n, n ∈ cs → 0 ≤ n ∧ n ≤ 255) ∧ cs.length ≤ maxLen) t := by
  refine opT_weak (opT_slice ht hc (by decide) (opT_weak (opT_int he) (W' := fun xs => ∃ c : Int, xs = bTr c ∧ (0 ≤ c ∧ c ≤ 255)) ?_)) ?_
  · rintro xs ⟨n, rfl, hw⟩
    refine ⟨n, rfl, ?_⟩
    simp [Lit.wf] at hw
    exact hw
  · rintro xs ⟨l, rfl, h1, h2⟩
    obtain ⟨cs, rfl, hcs⟩ := rowsOkD h2
    exact ⟨cs, rfl, hcs, by simpa using h1⟩
theorem op_Byss : OpT Try.prog (fun xs => ∃ cs : List Int, xs = [.sl 1 (cs.map bTr)] ∧ (∀ n, n ∈ cs → 0 ≤ n ∧ n ≤ 255) ∧ cs.length ≤ maxLen) 22 :=
  opT_bytes Try.underlying22 Try.underlying5 (by kernel_rfl)
end Go.Proofs.YtgalnkilcajgcaaA
