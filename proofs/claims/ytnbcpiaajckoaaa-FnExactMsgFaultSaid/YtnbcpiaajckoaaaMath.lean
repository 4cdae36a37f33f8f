/- Plain facts about whole numbers that several laws of this program use: no program and no memory in sight. -/
import Derived.RowKit
namespace Go.Proofs.Ytnbcpiaajckoaaa.Mth
open Go.RowKit

theorem wrap64_id {x : Int} (h0 : -9223372036854775808 ≤ x) (h1 : x ≤ 9223372036854775807) : wrap64 x = x := by
  unfold wrap64
  omega

theorem tmod_bounds (x : Int) {n : Int} (hn : 1 ≤ n) : -n < Int.tmod x n ∧ Int.tmod x n < n := by
  refine ⟨?_, Int.tmod_lt_of_pos x (by omega)⟩
  have h := Int.lt_tmod_of_pos x (show 0 < n by omega)
  omega

/-- Go's '(x%n + n) % n' is 'r = x%n; if r < 0 { r += n }'. -/
theorem modulo_same (x : Int) {n : Int} (hn : 1 ≤ n) (hb : n ≤ 1099511627776) :
    Int.tmod (wrap64 (Int.tmod x n + n)) n = if Int.tmod x n < 0 then wrap64 (Int.tmod x n + n) else Int.tmod x n := by
  have h := tmod_bounds x hn
  rw [wrap64_id (by omega) (by omega)]
  split
  · exact Int.tmod_eq_of_lt (by omega) (by omega)
  · rw [Int.tmod_eq_emod_of_nonneg (by omega), Int.add_emod_right]
    exact Int.emod_eq_of_lt (by omega) (by omega)

end Go.Proofs.Ytnbcpiaajckoaaa.Mth
