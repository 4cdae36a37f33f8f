/- Bags: what came in. -/
import Derived.Test.YthnpbfljoghbmaaEPutW
namespace Go.Proofs.YthnpbfljoghbmaaA
open Go.Proofs
set_option autoImplicit false
set_option linter.unusedVariables false
theorem rowsOk {X : Type} {tr : X → List Tree} {ok : X → Prop} {sz : Nat} : ∀ {l : List (List Tree)}, (∀ x, x ∈ l → x.length = sz ∧ ∃ c : X, x = tr c ∧ ok c) → ∃ cs : List X, l = cs.map tr ∧ ∀ c, c ∈ cs → ok c
  | [], _ => ⟨[], rfl, fun c hc => by cases hc⟩
  | x :: l, h => by
    obtain ⟨c, rfl, hc⟩ := (h x List.mem_cons_self).2
    obtain ⟨cs, rfl, hcs⟩ := rowsOk (tr := tr) (ok := ok) (sz := sz) (l := l) fun y hy => h y (List.mem_cons_of_mem _ hy)
    exact ⟨c :: cs, rfl, fun d hd => (List.mem_cons.1 hd).elim (fun e => e ▸ hc) (hcs d)⟩
theorem opT_rowsOk {P : Program} {t e : TypeId} {X : Type} {tr : X → List Tree} {ok : X → Prop} {sz : Nat} (ht : P.underlying t = some (.slice e)) (hc : P.cellsOf e = sz) (hpos : 0 < sz) (ho : OpT P (fun xs => ∃ c : X, xs = tr c ∧ ok c) e) : OpT P (fun xs => ∃ cs : List X, xs = [.sl sz (cs.map tr)] ∧ cs.length ≤ maxLen ∧ ∀ c, c ∈ cs → ok c) t := by
  refine opT_weak (opT_slice ht hc hpos ho) ?_
  rintro xs ⟨l, rfl, h1, h2⟩
  obtain ⟨cs, rfl, hcs⟩ := rowsOk h2
  exact ⟨cs, rfl, by simpa using h1, hcs⟩
theorem op_int {P : Program} {t : TypeId} (ht : P.underlying t = some (.int .i64)) : OpT P (fun xs => ∃ c : Int, xs = iTr c) t := opT_weak (opT_int ht) fun xs ⟨n, h, _⟩ => ⟨n, h⟩
theorem op_u8 {P : Program} {t : TypeId} (ht : P.underlying t = some (.int .u8)) : OpT P (fun xs => ∃ c : Int, xs = bTr c) t := opT_weak (opT_int ht) fun xs ⟨n, h, _⟩ => ⟨n, h⟩
abbrev Pk.ok (p : Pk) : Prop := p.bytes.length ≤ maxLen
theorem op_Pkk : OpT Try.prog (fun xs => ∃ c : Pk, xs = c.tr ∧ c.ok) 183 := by
  refine opT_weak (opT_struct Try.underlying183 (by kernel_rfl) (opT_cons (s := 1) rfl (by kernel_rfl) (opT_int Try.underlying3) (opT_cons (s := 1) rfl (by kernel_rfl) (opT_int Try.underlying3) (opT_cons (s := 1) rfl (by kernel_rfl) (opT_int Try.underlying3) (opT_cons (s := 1) rfl (by kernel_rfl) (opT_rows (tr := bTr) (sz := 1) Try.underlying26 (by kernel_rfl) (by decide) (op_u8 Try.underlying5)) opT_nil))))) ?_
  rintro xs ⟨_, _, rfl, ⟨a2, rfl, _⟩, ⟨_, _, rfl, ⟨a3, rfl, _⟩, ⟨_, _, rfl, ⟨a4, rfl, _⟩, ⟨_, _, rfl, ⟨a5, rfl, ha5⟩, rfl⟩⟩⟩⟩
  exact ⟨⟨a2, a3, a4, a5⟩, rfl, ha5⟩
theorem op_Bg : OpT Try.prog (fun xs => ∃ c : Bg, xs.map CV.t = c.cv ∧ (∀ e, e ∈ c.ps → e.ok) ∧ c.ps.length ≤ maxLen ∧ c.ws.length ≤ maxLen) 25 := by
  refine opT_weak (opT_struct Try.underlying25 (by kernel_rfl) (opT_cons (s := 1) rfl (by kernel_rfl) (opT_int Try.underlying3) (opT_cons (s := 1) rfl (by kernel_rfl) (opT_rowsOk (tr := Pk.tr) (ok := Pk.ok) (sz := 4) Try.underlying22 (by kernel_rfl) (by decide) op_Pkk) (opT_cons (s := 1) rfl (by kernel_rfl) (opT_rows (tr := iTr) (sz := 1) Try.underlying23 (by kernel_rfl) (by decide) (op_int Try.underlying3)) opT_nil)))) ?_
  rintro xs ⟨_, _, rfl, ⟨a2, rfl, _⟩, ⟨_, _, rfl, ⟨a3, rfl, ha3, oa3⟩, ⟨_, _, rfl, ⟨a4, rfl, ha4⟩, rfl⟩⟩⟩
  exact ⟨⟨a2, a3, a4⟩, rfl, oa3, ha3, ha4⟩
theorem op_Byss : OpT Try.prog (fun xs => ∃ cs : List Int, xs = [.sl 1 (cs.map bTr)] ∧ cs.length ≤ maxLen) 26 :=
  opT_rows (tr := bTr) (sz := 1) Try.underlying26 (by kernel_rfl) (by decide) (op_u8 Try.underlying5)
theorem lawPut (b : Bg) (f t : Int) (l : List Int) (h : (∀ e, e ∈ b.ps → e.ok) ∧ b.ps.length ≤ maxLen ∧ b.ws.length ≤ maxLen) (h3 : l.length ≤ maxLen) : TC Try.prog 3 [.agg b.cv, int f, int t, ro 1 (l.map bTr)] [] 1 (bool true) [] 1 :=
  lawPut_tc b f t l (by simp only [bgBig, pksBig, decide_eq_true_eq]; exact ⟨h.2.1, h.1⟩) h.2.2 h3
end Go.Proofs.YthnpbfljoghbmaaA
