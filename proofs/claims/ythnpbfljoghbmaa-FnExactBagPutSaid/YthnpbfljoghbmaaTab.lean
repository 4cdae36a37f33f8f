/- The types of this seat, told shortly. -/
import Derived.Test.YthnpbfljoghbmaaProg
import Derived.Test.YthnpbfljoghbmaaB3
import Derived.KernelRfl
namespace Go.Proofs.YthnpbfljoghbmaaA
open Go.Proofs
set_option autoImplicit false
set_option maxRecDepth 10000
theorem rowOk_mk {P : Program} {t : Nat} {r : Row} (hk : kOk P t r.k) (z : Value) (hi : (P.info? t).map (fun i => (i.size, i.bytes, i.zero)) = some (r.size, r.bytes, some z)) (h1 : z.cells.toList = r.zero) (h2 : r.k.isRow = true → z = .agg r.zero.toArray) (h3 : r.zero.length = r.size) (h4 : r.zero.all (·.oneCell') = true) (h5 : r.k.isRow = false → r.size = 1) (h6 : r.k.isRow = false → z.oneCell' = true) : RowOk P t r := by
  cases hq : P.info? t with
  | none => rw [hq] at hi; cases hi
  | some i =>
    rw [hq] at hi
    simp only [Option.map_some, Option.some.injEq, Prod.mk.injEq] at hi
    refine ⟨hk, ⟨i, hq, hi.1, hi.2.1, ⟨z, hi.2.2, h1, h2⟩, h3, h4, h5⟩, fun i' z' e1 e2 hr => ?_⟩
    rw [hq] at e1
    cases e1
    rw [hi.2.2] at e2
    cases e2
    exact h6 hr
def row1 : Row := ⟨.other, 1, 8, [.nilFunc]⟩
theorem rowOk1 : RowOk Try.prog 1 row1 := rowOk_mk ⟨_, Try.underlying1, rfl⟩ (.nilFunc) (by kernel_rfl) rfl (fun h => by cases h) rfl rfl (fun _ => rfl) (fun _ => rfl)
def row2 : Row := ⟨.int .i64, 1, 8, [.int .i64 0]⟩
theorem rowOk2 : RowOk Try.prog 2 row2 := rowOk_mk Try.underlying2 (.int .i64 0) (by kernel_rfl) rfl (fun h => by cases h) rfl rfl (fun _ => rfl) (fun _ => rfl)
def row3 : Row := ⟨.int .i64, 1, 8, [.int .i64 0]⟩
theorem rowOk3 : RowOk Try.prog 3 row3 := rowOk_mk Try.underlying3 (.int .i64 0) (by kernel_rfl) rfl (fun h => by cases h) rfl rfl (fun _ => rfl) (fun _ => rfl)
def row4 : Row := ⟨.bool, 1, 1, [.bool false]⟩
theorem rowOk4 : RowOk Try.prog 4 row4 := rowOk_mk Try.underlying4 (.bool false) (by kernel_rfl) rfl (fun h => by cases h) rfl rfl (fun _ => rfl) (fun _ => rfl)
def row5 : Row := ⟨.int .u8, 1, 1, [.int .u8 0]⟩
theorem rowOk5 : RowOk Try.prog 5 row5 := rowOk_mk Try.underlying5 (.int .u8 0) (by kernel_rfl) rfl (fun h => by cases h) rfl rfl (fun _ => rfl) (fun _ => rfl)
def row6 : Row := ⟨.int .u8, 1, 1, [.int .u8 0]⟩
theorem rowOk6 : RowOk Try.prog 6 row6 := rowOk_mk Try.underlying6 (.int .u8 0) (by kernel_rfl) rfl (fun h => by cases h) rfl rfl (fun _ => rfl) (fun _ => rfl)
def row7 : Row := ⟨.struct [(0, 2), (1, 3), (2, 4), (3, 6)], 4, 24, [.int .i64 0, .int .i64 0, .bool false, .int .u8 0]⟩
theorem rowOk7 : RowOk Try.prog 7 row7 := rowOk_mk ⟨_, Try.underlying7, rfl⟩ (.agg #[.int .i64 0, .int .i64 0, .bool false, .int .u8 0]) (by kernel_rfl) rfl (fun _ => rfl) rfl rfl (fun h => by cases h) (fun h => by cases h)
def row8 : Row := ⟨.struct [(0, 2), (1, 3), (2, 4), (3, 6)], 4, 24, [.int .i64 0, .int .i64 0, .bool false, .int .u8 0]⟩
theorem rowOk8 : RowOk Try.prog 8 row8 := rowOk_mk ⟨_, Try.underlying8, rfl⟩ (.agg #[.int .i64 0, .int .i64 0, .bool false, .int .u8 0]) (by kernel_rfl) rfl (fun _ => rfl) rfl rfl (fun h => by cases h) (fun h => by cases h)
def row9 : Row := ⟨.str, 1, 16, [.string ⟨#[]⟩]⟩
theorem rowOk9 : RowOk Try.prog 9 row9 := rowOk_mk Try.underlying9 (.string ⟨#[]⟩) (by kernel_rfl) rfl (fun h => by cases h) rfl rfl (fun _ => rfl) (fun _ => rfl)
def row10 : Row := ⟨.str, 1, 16, [.string ⟨#[]⟩]⟩
theorem rowOk10 : RowOk Try.prog 10 row10 := rowOk_mk Try.underlying10 (.string ⟨#[]⟩) (by kernel_rfl) rfl (fun h => by cases h) rfl rfl (fun _ => rfl) (fun _ => rfl)
def row11 : Row := ⟨.str, 1, 16, [.string ⟨#[]⟩]⟩
theorem rowOk11 : RowOk Try.prog 11 row11 := rowOk_mk Try.underlying11 (.string ⟨#[]⟩) (by kernel_rfl) rfl (fun h => by cases h) rfl rfl (fun _ => rfl) (fun _ => rfl)
def row12 : Row := ⟨.int .u64, 1, 8, [.int .u64 0]⟩
theorem rowOk12 : RowOk Try.prog 12 row12 := rowOk_mk Try.underlying12 (.int .u64 0) (by kernel_rfl) rfl (fun h => by cases h) rfl rfl (fun _ => rfl) (fun _ => rfl)
def row13 : Row := ⟨.struct [(0, 9), (1, 12)], 2, 24, [.string ⟨#[]⟩, .int .u64 0]⟩
theorem rowOk13 : RowOk Try.prog 13 row13 := rowOk_mk ⟨_, Try.underlying13, rfl⟩ (.agg #[.string ⟨#[]⟩, .int .u64 0]) (by kernel_rfl) rfl (fun _ => rfl) rfl rfl (fun h => by cases h) (fun h => by cases h)
def row14 : Row := ⟨.struct [(0, 9), (1, 12)], 2, 24, [.string ⟨#[]⟩, .int .u64 0]⟩
theorem rowOk14 : RowOk Try.prog 14 row14 := rowOk_mk ⟨_, Try.underlying14, rfl⟩ (.agg #[.string ⟨#[]⟩, .int .u64 0]) (by kernel_rfl) rfl (fun _ => rfl) rfl rfl (fun h => by cases h) (fun h => by cases h)
def row15 : Row := ⟨.other, 1, 8, [.pointer none]⟩
theorem rowOk15 : RowOk Try.prog 15 row15 := rowOk_mk ⟨_, Try.underlying15, rfl⟩ (.pointer none) (by kernel_rfl) rfl (fun h => by cases h) rfl rfl (fun _ => rfl) (fun _ => rfl)
def row16 : Row := ⟨.other, 1, 8, [.pointer none]⟩
theorem rowOk16 : RowOk Try.prog 16 row16 := rowOk_mk ⟨_, Try.underlying16, rfl⟩ (.pointer none) (by kernel_rfl) rfl (fun h => by cases h) rfl rfl (fun _ => rfl) (fun _ => rfl)
def row17 : Row := ⟨.other, 1, 8, [.pointer none]⟩
theorem rowOk17 : RowOk Try.prog 17 row17 := rowOk_mk ⟨_, Try.underlying17, rfl⟩ (.pointer none) (by kernel_rfl) rfl (fun h => by cases h) rfl rfl (fun _ => rfl) (fun _ => rfl)
def row18 : Row := ⟨.struct [(0, 17)], 1, 8, [.pointer none]⟩
theorem rowOk18 : RowOk Try.prog 18 row18 := rowOk_mk ⟨_, Try.underlying18, rfl⟩ (.agg #[.pointer none]) (by kernel_rfl) rfl (fun _ => rfl) rfl rfl (fun h => by cases h) (fun h => by cases h)
def row19 : Row := ⟨.struct [(0, 17)], 1, 8, [.pointer none]⟩
theorem rowOk19 : RowOk Try.prog 19 row19 := rowOk_mk ⟨_, Try.underlying19, rfl⟩ (.agg #[.pointer none]) (by kernel_rfl) rfl (fun _ => rfl) rfl rfl (fun h => by cases h) (fun h => by cases h)
def row20 : Row := ⟨.other, 1, 16, [.nilIface]⟩
theorem rowOk20 : RowOk Try.prog 20 row20 := rowOk_mk ⟨_, Try.underlying20, rfl⟩ (.nilIface) (by kernel_rfl) rfl (fun h => by cases h) rfl rfl (fun _ => rfl) (fun _ => rfl)
def row21 : Row := ⟨.int .i32, 1, 4, [.int .i32 0]⟩
theorem rowOk21 : RowOk Try.prog 21 row21 := rowOk_mk Try.underlying21 (.int .i32 0) (by kernel_rfl) rfl (fun h => by cases h) rfl rfl (fun _ => rfl) (fun _ => rfl)
def row22 : Row := ⟨.slice 183, 1, 24, [.slice none 0 0]⟩
theorem rowOk22 : RowOk Try.prog 22 row22 := rowOk_mk Try.underlying22 (.slice none 0 0) (by kernel_rfl) rfl (fun h => by cases h) rfl rfl (fun _ => rfl) (fun _ => rfl)
def row23 : Row := ⟨.slice 3, 1, 24, [.slice none 0 0]⟩
theorem rowOk23 : RowOk Try.prog 23 row23 := rowOk_mk Try.underlying23 (.slice none 0 0) (by kernel_rfl) rfl (fun h => by cases h) rfl rfl (fun _ => rfl) (fun _ => rfl)
def row24 : Row := ⟨.struct [(0, 3), (1, 22), (2, 23)], 3, 56, [.int .i64 0, .slice none 0 0, .slice none 0 0]⟩
theorem rowOk24 : RowOk Try.prog 24 row24 := rowOk_mk ⟨_, Try.underlying24, rfl⟩ (.agg #[.int .i64 0, .slice none 0 0, .slice none 0 0]) (by kernel_rfl) rfl (fun _ => rfl) rfl rfl (fun h => by cases h) (fun h => by cases h)
def row25 : Row := ⟨.struct [(0, 3), (1, 22), (2, 23)], 3, 56, [.int .i64 0, .slice none 0 0, .slice none 0 0]⟩
theorem rowOk25 : RowOk Try.prog 25 row25 := rowOk_mk ⟨_, Try.underlying25, rfl⟩ (.agg #[.int .i64 0, .slice none 0 0, .slice none 0 0]) (by kernel_rfl) rfl (fun _ => rfl) rfl rfl (fun h => by cases h) (fun h => by cases h)
def row26 : Row := ⟨.slice 5, 1, 24, [.slice none 0 0]⟩
theorem rowOk26 : RowOk Try.prog 26 row26 := rowOk_mk Try.underlying26 (.slice none 0 0) (by kernel_rfl) rfl (fun h => by cases h) rfl rfl (fun _ => rfl) (fun _ => rfl)
def row27 : Row := ⟨.other, 1, 8, [.nilFunc]⟩
theorem rowOk27 : RowOk Try.prog 27 row27 := rowOk_mk ⟨_, Try.underlying27, rfl⟩ (.nilFunc) (by kernel_rfl) rfl (fun h => by cases h) rfl rfl (fun _ => rfl) (fun _ => rfl)
def row28 : Row := ⟨.slice 44, 1, 24, [.slice none 0 0]⟩
theorem rowOk28 : RowOk Try.prog 28 row28 := rowOk_mk Try.underlying28 (.slice none 0 0) (by kernel_rfl) rfl (fun h => by cases h) rfl rfl (fun _ => rfl) (fun _ => rfl)
def row29 : Row := ⟨.struct [(0, 3), (1, 28), (2, 23)], 3, 56, [.int .i64 0, .slice none 0 0, .slice none 0 0]⟩
theorem rowOk29 : RowOk Try.prog 29 row29 := rowOk_mk ⟨_, Try.underlying29, rfl⟩ (.agg #[.int .i64 0, .slice none 0 0, .slice none 0 0]) (by kernel_rfl) rfl (fun _ => rfl) rfl rfl (fun h => by cases h) (fun h => by cases h)
def row30 : Row := ⟨.struct [(0, 3), (1, 28), (2, 23)], 3, 56, [.int .i64 0, .slice none 0 0, .slice none 0 0]⟩
theorem rowOk30 : RowOk Try.prog 30 row30 := rowOk_mk ⟨_, Try.underlying30, rfl⟩ (.agg #[.int .i64 0, .slice none 0 0, .slice none 0 0]) (by kernel_rfl) rfl (fun _ => rfl) rfl rfl (fun h => by cases h) (fun h => by cases h)
def row31 : Row := ⟨.struct [(0, 3), (1, 3), (2, 30)], 5, 72, [.int .i64 0, .int .i64 0, .int .i64 0, .slice none 0 0, .slice none 0 0]⟩
theorem rowOk31 : RowOk Try.prog 31 row31 := rowOk_mk ⟨_, Try.underlying31, rfl⟩ (.agg #[.int .i64 0, .int .i64 0, .int .i64 0, .slice none 0 0, .slice none 0 0]) (by kernel_rfl) rfl (fun _ => rfl) rfl rfl (fun h => by cases h) (fun h => by cases h)
def row32 : Row := ⟨.struct [(0, 3), (1, 3), (2, 30)], 5, 72, [.int .i64 0, .int .i64 0, .int .i64 0, .slice none 0 0, .slice none 0 0]⟩
theorem rowOk32 : RowOk Try.prog 32 row32 := rowOk_mk ⟨_, Try.underlying32, rfl⟩ (.agg #[.int .i64 0, .int .i64 0, .int .i64 0, .slice none 0 0, .slice none 0 0]) (by kernel_rfl) rfl (fun _ => rfl) rfl rfl (fun h => by cases h) (fun h => by cases h)
def row33 : Row := ⟨.other, 1, 8, [.nilFunc]⟩
theorem rowOk33 : RowOk Try.prog 33 row33 := rowOk_mk ⟨_, Try.underlying33, rfl⟩ (.nilFunc) (by kernel_rfl) rfl (fun h => by cases h) rfl rfl (fun _ => rfl) (fun _ => rfl)
def row34 : Row := ⟨.other, 1, 8, [.nilFunc]⟩
theorem rowOk34 : RowOk Try.prog 34 row34 := rowOk_mk ⟨_, Try.underlying34, rfl⟩ (.nilFunc) (by kernel_rfl) rfl (fun h => by cases h) rfl rfl (fun _ => rfl) (fun _ => rfl)
def row35 : Row := ⟨.other, 1, 8, [.nilFunc]⟩
theorem rowOk35 : RowOk Try.prog 35 row35 := rowOk_mk ⟨_, Try.underlying35, rfl⟩ (.nilFunc) (by kernel_rfl) rfl (fun h => by cases h) rfl rfl (fun _ => rfl) (fun _ => rfl)
def row36 : Row := ⟨.other, 1, 8, [.nilFunc]⟩
theorem rowOk36 : RowOk Try.prog 36 row36 := rowOk_mk ⟨_, Try.underlying36, rfl⟩ (.nilFunc) (by kernel_rfl) rfl (fun h => by cases h) rfl rfl (fun _ => rfl) (fun _ => rfl)
def row37 : Row := ⟨.other, 1, 8, [.nilFunc]⟩
theorem rowOk37 : RowOk Try.prog 37 row37 := rowOk_mk ⟨_, Try.underlying37, rfl⟩ (.nilFunc) (by kernel_rfl) rfl (fun h => by cases h) rfl rfl (fun _ => rfl) (fun _ => rfl)
def row38 : Row := ⟨.other, 1, 8, [.nilFunc]⟩
theorem rowOk38 : RowOk Try.prog 38 row38 := rowOk_mk ⟨_, Try.underlying38, rfl⟩ (.nilFunc) (by kernel_rfl) rfl (fun h => by cases h) rfl rfl (fun _ => rfl) (fun _ => rfl)
def row39 : Row := ⟨.other, 1, 8, [.nilFunc]⟩
theorem rowOk39 : RowOk Try.prog 39 row39 := rowOk_mk ⟨_, Try.underlying39, rfl⟩ (.nilFunc) (by kernel_rfl) rfl (fun h => by cases h) rfl rfl (fun _ => rfl) (fun _ => rfl)
def row40 : Row := ⟨.other, 1, 8, [.nilFunc]⟩
theorem rowOk40 : RowOk Try.prog 40 row40 := rowOk_mk ⟨_, Try.underlying40, rfl⟩ (.nilFunc) (by kernel_rfl) rfl (fun h => by cases h) rfl rfl (fun _ => rfl) (fun _ => rfl)
def row41 : Row := ⟨.other, 1, 8, [.nilFunc]⟩
theorem rowOk41 : RowOk Try.prog 41 row41 := rowOk_mk ⟨_, Try.underlying41, rfl⟩ (.nilFunc) (by kernel_rfl) rfl (fun h => by cases h) rfl rfl (fun _ => rfl) (fun _ => rfl)
def row42 : Row := ⟨.other, 1, 8, [.nilFunc]⟩
theorem rowOk42 : RowOk Try.prog 42 row42 := rowOk_mk ⟨_, Try.underlying42, rfl⟩ (.nilFunc) (by kernel_rfl) rfl (fun h => by cases h) rfl rfl (fun _ => rfl) (fun _ => rfl)
def row43 : Row := ⟨.struct [(0, 3), (1, 3), (2, 3), (3, 26)], 4, 48, [.int .i64 0, .int .i64 0, .int .i64 0, .slice none 0 0]⟩
theorem rowOk43 : RowOk Try.prog 43 row43 := rowOk_mk ⟨_, Try.underlying43, rfl⟩ (.agg #[.int .i64 0, .int .i64 0, .int .i64 0, .slice none 0 0]) (by kernel_rfl) rfl (fun _ => rfl) rfl rfl (fun h => by cases h) (fun h => by cases h)
def row44 : Row := ⟨.struct [(0, 3), (1, 3), (2, 3), (3, 26)], 4, 48, [.int .i64 0, .int .i64 0, .int .i64 0, .slice none 0 0]⟩
theorem rowOk44 : RowOk Try.prog 44 row44 := rowOk_mk ⟨_, Try.underlying44, rfl⟩ (.agg #[.int .i64 0, .int .i64 0, .int .i64 0, .slice none 0 0]) (by kernel_rfl) rfl (fun _ => rfl) rfl rfl (fun h => by cases h) (fun h => by cases h)
def row45 : Row := ⟨.struct [(0, 3), (1, 3), (2, 44), (6, 30)], 9, 120, [.int .i64 0, .int .i64 0, .int .i64 0, .int .i64 0, .int .i64 0, .slice none 0 0, .int .i64 0, .slice none 0 0, .slice none 0 0]⟩
theorem rowOk45 : RowOk Try.prog 45 row45 := rowOk_mk ⟨_, Try.underlying45, rfl⟩ (.agg #[.int .i64 0, .int .i64 0, .int .i64 0, .int .i64 0, .int .i64 0, .slice none 0 0, .int .i64 0, .slice none 0 0, .slice none 0 0]) (by kernel_rfl) rfl (fun _ => rfl) rfl rfl (fun h => by cases h) (fun h => by cases h)
def row46 : Row := ⟨.struct [(0, 3), (1, 3), (2, 44), (6, 30)], 9, 120, [.int .i64 0, .int .i64 0, .int .i64 0, .int .i64 0, .int .i64 0, .slice none 0 0, .int .i64 0, .slice none 0 0, .slice none 0 0]⟩
theorem rowOk46 : RowOk Try.prog 46 row46 := rowOk_mk ⟨_, Try.underlying46, rfl⟩ (.agg #[.int .i64 0, .int .i64 0, .int .i64 0, .int .i64 0, .int .i64 0, .slice none 0 0, .int .i64 0, .slice none 0 0, .slice none 0 0]) (by kernel_rfl) rfl (fun _ => rfl) rfl rfl (fun h => by cases h) (fun h => by cases h)
def row47 : Row := ⟨.other, 1, 8, [.nilFunc]⟩
theorem rowOk47 : RowOk Try.prog 47 row47 := rowOk_mk ⟨_, Try.underlying47, rfl⟩ (.nilFunc) (by kernel_rfl) rfl (fun h => by cases h) rfl rfl (fun _ => rfl) (fun _ => rfl)
def row48 : Row := ⟨.other, 1, 8, [.nilFunc]⟩
theorem rowOk48 : RowOk Try.prog 48 row48 := rowOk_mk ⟨_, Try.underlying48, rfl⟩ (.nilFunc) (by kernel_rfl) rfl (fun h => by cases h) rfl rfl (fun _ => rfl) (fun _ => rfl)
def row49 : Row := ⟨.other, 1, 8, [.nilFunc]⟩
theorem rowOk49 : RowOk Try.prog 49 row49 := rowOk_mk ⟨_, Try.underlying49, rfl⟩ (.nilFunc) (by kernel_rfl) rfl (fun h => by cases h) rfl rfl (fun _ => rfl) (fun _ => rfl)
def row50 : Row := ⟨.other, 1, 8, [.nilFunc]⟩
theorem rowOk50 : RowOk Try.prog 50 row50 := rowOk_mk ⟨_, Try.underlying50, rfl⟩ (.nilFunc) (by kernel_rfl) rfl (fun h => by cases h) rfl rfl (fun _ => rfl) (fun _ => rfl)
def row51 : Row := ⟨.other, 1, 8, [.nilFunc]⟩
theorem rowOk51 : RowOk Try.prog 51 row51 := rowOk_mk ⟨_, Try.underlying51, rfl⟩ (.nilFunc) (by kernel_rfl) rfl (fun h => by cases h) rfl rfl (fun _ => rfl) (fun _ => rfl)
def row53 : Row := ⟨.other, 1, 8, [.nilFunc]⟩
theorem rowOk53 : RowOk Try.prog 53 row53 := rowOk_mk ⟨_, Try.underlying53, rfl⟩ (.nilFunc) (by kernel_rfl) rfl (fun h => by cases h) rfl rfl (fun _ => rfl) (fun _ => rfl)
def row54 : Row := ⟨.other, 1, 8, [.nilFunc]⟩
theorem rowOk54 : RowOk Try.prog 54 row54 := rowOk_mk ⟨_, Try.underlying54, rfl⟩ (.nilFunc) (by kernel_rfl) rfl (fun h => by cases h) rfl rfl (fun _ => rfl) (fun _ => rfl)
def row55 : Row := ⟨.other, 1, 8, [.nilFunc]⟩
theorem rowOk55 : RowOk Try.prog 55 row55 := rowOk_mk ⟨_, Try.underlying55, rfl⟩ (.nilFunc) (by kernel_rfl) rfl (fun h => by cases h) rfl rfl (fun _ => rfl) (fun _ => rfl)
def row56 : Row := ⟨.slice 138, 1, 24, [.slice none 0 0]⟩
theorem rowOk56 : RowOk Try.prog 56 row56 := rowOk_mk Try.underlying56 (.slice none 0 0) (by kernel_rfl) rfl (fun h => by cases h) rfl rfl (fun _ => rfl) (fun _ => rfl)
def row57 : Row := ⟨.slice 90, 1, 24, [.slice none 0 0]⟩
theorem rowOk57 : RowOk Try.prog 57 row57 := rowOk_mk Try.underlying57 (.slice none 0 0) (by kernel_rfl) rfl (fun h => by cases h) rfl rfl (fun _ => rfl) (fun _ => rfl)
def row58 : Row := ⟨.other, 1, 8, [.nilFunc]⟩
theorem rowOk58 : RowOk Try.prog 58 row58 := rowOk_mk ⟨_, Try.underlying58, rfl⟩ (.nilFunc) (by kernel_rfl) rfl (fun h => by cases h) rfl rfl (fun _ => rfl) (fun _ => rfl)
def row59 : Row := ⟨.other, 1, 8, [.nilFunc]⟩
theorem rowOk59 : RowOk Try.prog 59 row59 := rowOk_mk ⟨_, Try.underlying59, rfl⟩ (.nilFunc) (by kernel_rfl) rfl (fun h => by cases h) rfl rfl (fun _ => rfl) (fun _ => rfl)
def row60 : Row := ⟨.struct [(0, 3), (1, 3)], 2, 16, [.int .i64 0, .int .i64 0]⟩
theorem rowOk60 : RowOk Try.prog 60 row60 := rowOk_mk ⟨_, Try.underlying60, rfl⟩ (.agg #[.int .i64 0, .int .i64 0]) (by kernel_rfl) rfl (fun _ => rfl) rfl rfl (fun h => by cases h) (fun h => by cases h)
def row61 : Row := ⟨.struct [(0, 3), (1, 3)], 2, 16, [.int .i64 0, .int .i64 0]⟩
theorem rowOk61 : RowOk Try.prog 61 row61 := rowOk_mk ⟨_, Try.underlying61, rfl⟩ (.agg #[.int .i64 0, .int .i64 0]) (by kernel_rfl) rfl (fun _ => rfl) rfl rfl (fun h => by cases h) (fun h => by cases h)
def row62 : Row := ⟨.other, 1, 8, [.nilFunc]⟩
theorem rowOk62 : RowOk Try.prog 62 row62 := rowOk_mk ⟨_, Try.underlying62, rfl⟩ (.nilFunc) (by kernel_rfl) rfl (fun h => by cases h) rfl rfl (fun _ => rfl) (fun _ => rfl)
def row63 : Row := ⟨.slice 143, 1, 24, [.slice none 0 0]⟩
theorem rowOk63 : RowOk Try.prog 63 row63 := rowOk_mk Try.underlying63 (.slice none 0 0) (by kernel_rfl) rfl (fun h => by cases h) rfl rfl (fun _ => rfl) (fun _ => rfl)
def row64 : Row := ⟨.other, 1, 8, [.nilFunc]⟩
theorem rowOk64 : RowOk Try.prog 64 row64 := rowOk_mk ⟨_, Try.underlying64, rfl⟩ (.nilFunc) (by kernel_rfl) rfl (fun h => by cases h) rfl rfl (fun _ => rfl) (fun _ => rfl)
def row65 : Row := ⟨.slice 97, 1, 24, [.slice none 0 0]⟩
theorem rowOk65 : RowOk Try.prog 65 row65 := rowOk_mk Try.underlying65 (.slice none 0 0) (by kernel_rfl) rfl (fun h => by cases h) rfl rfl (fun _ => rfl) (fun _ => rfl)
def row66 : Row := ⟨.other, 1, 8, [.nilFunc]⟩
theorem rowOk66 : RowOk Try.prog 66 row66 := rowOk_mk ⟨_, Try.underlying66, rfl⟩ (.nilFunc) (by kernel_rfl) rfl (fun h => by cases h) rfl rfl (fun _ => rfl) (fun _ => rfl)
def row67 : Row := ⟨.other, 1, 8, [.nilFunc]⟩
theorem rowOk67 : RowOk Try.prog 67 row67 := rowOk_mk ⟨_, Try.underlying67, rfl⟩ (.nilFunc) (by kernel_rfl) rfl (fun h => by cases h) rfl rfl (fun _ => rfl) (fun _ => rfl)
def row68 : Row := ⟨.other, 1, 8, [.nilFunc]⟩
theorem rowOk68 : RowOk Try.prog 68 row68 := rowOk_mk ⟨_, Try.underlying68, rfl⟩ (.nilFunc) (by kernel_rfl) rfl (fun h => by cases h) rfl rfl (fun _ => rfl) (fun _ => rfl)
def row69 : Row := ⟨.other, 1, 8, [.nilFunc]⟩
theorem rowOk69 : RowOk Try.prog 69 row69 := rowOk_mk ⟨_, Try.underlying69, rfl⟩ (.nilFunc) (by kernel_rfl) rfl (fun h => by cases h) rfl rfl (fun _ => rfl) (fun _ => rfl)
def row70 : Row := ⟨.other, 1, 8, [.nilFunc]⟩
theorem rowOk70 : RowOk Try.prog 70 row70 := rowOk_mk ⟨_, Try.underlying70, rfl⟩ (.nilFunc) (by kernel_rfl) rfl (fun h => by cases h) rfl rfl (fun _ => rfl) (fun _ => rfl)
def row71 : Row := ⟨.slice 163, 1, 24, [.slice none 0 0]⟩
theorem rowOk71 : RowOk Try.prog 71 row71 := rowOk_mk Try.underlying71 (.slice none 0 0) (by kernel_rfl) rfl (fun h => by cases h) rfl rfl (fun _ => rfl) (fun _ => rfl)
def row72 : Row := ⟨.other, 1, 8, [.nilFunc]⟩
theorem rowOk72 : RowOk Try.prog 72 row72 := rowOk_mk ⟨_, Try.underlying72, rfl⟩ (.nilFunc) (by kernel_rfl) rfl (fun h => by cases h) rfl rfl (fun _ => rfl) (fun _ => rfl)
def row73 : Row := ⟨.slice 206, 1, 24, [.slice none 0 0]⟩
theorem rowOk73 : RowOk Try.prog 73 row73 := rowOk_mk Try.underlying73 (.slice none 0 0) (by kernel_rfl) rfl (fun h => by cases h) rfl rfl (fun _ => rfl) (fun _ => rfl)
def row74 : Row := ⟨.slice 192, 1, 24, [.slice none 0 0]⟩
theorem rowOk74 : RowOk Try.prog 74 row74 := rowOk_mk Try.underlying74 (.slice none 0 0) (by kernel_rfl) rfl (fun h => by cases h) rfl rfl (fun _ => rfl) (fun _ => rfl)
def row75 : Row := ⟨.struct [(0, 73), (1, 74)], 2, 48, [.slice none 0 0, .slice none 0 0]⟩
theorem rowOk75 : RowOk Try.prog 75 row75 := rowOk_mk ⟨_, Try.underlying75, rfl⟩ (.agg #[.slice none 0 0, .slice none 0 0]) (by kernel_rfl) rfl (fun _ => rfl) rfl rfl (fun h => by cases h) (fun h => by cases h)
def row76 : Row := ⟨.struct [(0, 73), (1, 74)], 2, 48, [.slice none 0 0, .slice none 0 0]⟩
theorem rowOk76 : RowOk Try.prog 76 row76 := rowOk_mk ⟨_, Try.underlying76, rfl⟩ (.agg #[.slice none 0 0, .slice none 0 0]) (by kernel_rfl) rfl (fun _ => rfl) rfl rfl (fun h => by cases h) (fun h => by cases h)
def row77 : Row := ⟨.other, 1, 8, [.nilFunc]⟩
theorem rowOk77 : RowOk Try.prog 77 row77 := rowOk_mk ⟨_, Try.underlying77, rfl⟩ (.nilFunc) (by kernel_rfl) rfl (fun h => by cases h) rfl rfl (fun _ => rfl) (fun _ => rfl)
def row78 : Row := ⟨.slice 166, 1, 24, [.slice none 0 0]⟩
theorem rowOk78 : RowOk Try.prog 78 row78 := rowOk_mk Try.underlying78 (.slice none 0 0) (by kernel_rfl) rfl (fun h => by cases h) rfl rfl (fun _ => rfl) (fun _ => rfl)
def row79 : Row := ⟨.other, 1, 8, [.nilFunc]⟩
theorem rowOk79 : RowOk Try.prog 79 row79 := rowOk_mk ⟨_, Try.underlying79, rfl⟩ (.nilFunc) (by kernel_rfl) rfl (fun h => by cases h) rfl rfl (fun _ => rfl) (fun _ => rfl)
def row80 : Row := ⟨.other, 1, 8, [.nilFunc]⟩
theorem rowOk80 : RowOk Try.prog 80 row80 := rowOk_mk ⟨_, Try.underlying80, rfl⟩ (.nilFunc) (by kernel_rfl) rfl (fun h => by cases h) rfl rfl (fun _ => rfl) (fun _ => rfl)
def row81 : Row := ⟨.other, 1, 8, [.nilFunc]⟩
theorem rowOk81 : RowOk Try.prog 81 row81 := rowOk_mk ⟨_, Try.underlying81, rfl⟩ (.nilFunc) (by kernel_rfl) rfl (fun h => by cases h) rfl rfl (fun _ => rfl) (fun _ => rfl)
def row82 : Row := ⟨.other, 1, 8, [.nilFunc]⟩
theorem rowOk82 : RowOk Try.prog 82 row82 := rowOk_mk ⟨_, Try.underlying82, rfl⟩ (.nilFunc) (by kernel_rfl) rfl (fun h => by cases h) rfl rfl (fun _ => rfl) (fun _ => rfl)
def row83 : Row := ⟨.other, 1, 8, [.nilFunc]⟩
theorem rowOk83 : RowOk Try.prog 83 row83 := rowOk_mk ⟨_, Try.underlying83, rfl⟩ (.nilFunc) (by kernel_rfl) rfl (fun h => by cases h) rfl rfl (fun _ => rfl) (fun _ => rfl)
def row84 : Row := ⟨.other, 1, 8, [.nilFunc]⟩
theorem rowOk84 : RowOk Try.prog 84 row84 := rowOk_mk ⟨_, Try.underlying84, rfl⟩ (.nilFunc) (by kernel_rfl) rfl (fun h => by cases h) rfl rfl (fun _ => rfl) (fun _ => rfl)
def row85 : Row := ⟨.slice 219, 1, 24, [.slice none 0 0]⟩
theorem rowOk85 : RowOk Try.prog 85 row85 := rowOk_mk Try.underlying85 (.slice none 0 0) (by kernel_rfl) rfl (fun h => by cases h) rfl rfl (fun _ => rfl) (fun _ => rfl)
def row86 : Row := ⟨.slice 221, 1, 24, [.slice none 0 0]⟩
theorem rowOk86 : RowOk Try.prog 86 row86 := rowOk_mk Try.underlying86 (.slice none 0 0) (by kernel_rfl) rfl (fun h => by cases h) rfl rfl (fun _ => rfl) (fun _ => rfl)
def row87 : Row := ⟨.struct [(0, 85), (1, 86)], 2, 48, [.slice none 0 0, .slice none 0 0]⟩
theorem rowOk87 : RowOk Try.prog 87 row87 := rowOk_mk ⟨_, Try.underlying87, rfl⟩ (.agg #[.slice none 0 0, .slice none 0 0]) (by kernel_rfl) rfl (fun _ => rfl) rfl rfl (fun h => by cases h) (fun h => by cases h)
def row88 : Row := ⟨.struct [(0, 85), (1, 86)], 2, 48, [.slice none 0 0, .slice none 0 0]⟩
theorem rowOk88 : RowOk Try.prog 88 row88 := rowOk_mk ⟨_, Try.underlying88, rfl⟩ (.agg #[.slice none 0 0, .slice none 0 0]) (by kernel_rfl) rfl (fun _ => rfl) rfl rfl (fun h => by cases h) (fun h => by cases h)
def row89 : Row := ⟨.struct [(0, 3), (1, 3), (2, 3), (3, 9), (4, 9), (5, 9)], 6, 72, [.int .i64 0, .int .i64 0, .int .i64 0, .string ⟨#[]⟩, .string ⟨#[]⟩, .string ⟨#[]⟩]⟩
theorem rowOk89 : RowOk Try.prog 89 row89 := rowOk_mk ⟨_, Try.underlying89, rfl⟩ (.agg #[.int .i64 0, .int .i64 0, .int .i64 0, .string ⟨#[]⟩, .string ⟨#[]⟩, .string ⟨#[]⟩]) (by kernel_rfl) rfl (fun _ => rfl) rfl rfl (fun h => by cases h) (fun h => by cases h)
def row90 : Row := ⟨.struct [(0, 3), (1, 3), (2, 3), (3, 9), (4, 9), (5, 9)], 6, 72, [.int .i64 0, .int .i64 0, .int .i64 0, .string ⟨#[]⟩, .string ⟨#[]⟩, .string ⟨#[]⟩]⟩
theorem rowOk90 : RowOk Try.prog 90 row90 := rowOk_mk ⟨_, Try.underlying90, rfl⟩ (.agg #[.int .i64 0, .int .i64 0, .int .i64 0, .string ⟨#[]⟩, .string ⟨#[]⟩, .string ⟨#[]⟩]) (by kernel_rfl) rfl (fun _ => rfl) rfl rfl (fun h => by cases h) (fun h => by cases h)
def row91 : Row := ⟨.other, 1, 8, [.nilFunc]⟩
theorem rowOk91 : RowOk Try.prog 91 row91 := rowOk_mk ⟨_, Try.underlying91, rfl⟩ (.nilFunc) (by kernel_rfl) rfl (fun h => by cases h) rfl rfl (fun _ => rfl) (fun _ => rfl)
def row92 : Row := ⟨.other, 1, 8, [.nilFunc]⟩
theorem rowOk92 : RowOk Try.prog 92 row92 := rowOk_mk ⟨_, Try.underlying92, rfl⟩ (.nilFunc) (by kernel_rfl) rfl (fun h => by cases h) rfl rfl (fun _ => rfl) (fun _ => rfl)
def row93 : Row := ⟨.struct [(0, 3), (1, 3), (2, 9), (3, 76)], 5, 80, [.int .i64 0, .int .i64 0, .string ⟨#[]⟩, .slice none 0 0, .slice none 0 0]⟩
theorem rowOk93 : RowOk Try.prog 93 row93 := rowOk_mk ⟨_, Try.underlying93, rfl⟩ (.agg #[.int .i64 0, .int .i64 0, .string ⟨#[]⟩, .slice none 0 0, .slice none 0 0]) (by kernel_rfl) rfl (fun _ => rfl) rfl rfl (fun h => by cases h) (fun h => by cases h)
def row94 : Row := ⟨.struct [(0, 3), (1, 3), (2, 9), (3, 76)], 5, 80, [.int .i64 0, .int .i64 0, .string ⟨#[]⟩, .slice none 0 0, .slice none 0 0]⟩
theorem rowOk94 : RowOk Try.prog 94 row94 := rowOk_mk ⟨_, Try.underlying94, rfl⟩ (.agg #[.int .i64 0, .int .i64 0, .string ⟨#[]⟩, .slice none 0 0, .slice none 0 0]) (by kernel_rfl) rfl (fun _ => rfl) rfl rfl (fun h => by cases h) (fun h => by cases h)
def row95 : Row := ⟨.other, 1, 8, [.nilFunc]⟩
theorem rowOk95 : RowOk Try.prog 95 row95 := rowOk_mk ⟨_, Try.underlying95, rfl⟩ (.nilFunc) (by kernel_rfl) rfl (fun h => by cases h) rfl rfl (fun _ => rfl) (fun _ => rfl)
def row96 : Row := ⟨.other, 1, 8, [.nilFunc]⟩
theorem rowOk96 : RowOk Try.prog 96 row96 := rowOk_mk ⟨_, Try.underlying96, rfl⟩ (.nilFunc) (by kernel_rfl) rfl (fun h => by cases h) rfl rfl (fun _ => rfl) (fun _ => rfl)
def row97 : Row := ⟨.struct [(0, 3), (1, 3), (2, 3), (3, 9), (4, 9), (5, 9)], 6, 72, [.int .i64 0, .int .i64 0, .int .i64 0, .string ⟨#[]⟩, .string ⟨#[]⟩, .string ⟨#[]⟩]⟩
theorem rowOk97 : RowOk Try.prog 97 row97 := rowOk_mk ⟨_, Try.underlying97, rfl⟩ (.agg #[.int .i64 0, .int .i64 0, .int .i64 0, .string ⟨#[]⟩, .string ⟨#[]⟩, .string ⟨#[]⟩]) (by kernel_rfl) rfl (fun _ => rfl) rfl rfl (fun h => by cases h) (fun h => by cases h)
def row98 : Row := ⟨.other, 1, 8, [.nilFunc]⟩
theorem rowOk98 : RowOk Try.prog 98 row98 := rowOk_mk ⟨_, Try.underlying98, rfl⟩ (.nilFunc) (by kernel_rfl) rfl (fun h => by cases h) rfl rfl (fun _ => rfl) (fun _ => rfl)
def row99 : Row := ⟨.other, 1, 8, [.nilFunc]⟩
theorem rowOk99 : RowOk Try.prog 99 row99 := rowOk_mk ⟨_, Try.underlying99, rfl⟩ (.nilFunc) (by kernel_rfl) rfl (fun h => by cases h) rfl rfl (fun _ => rfl) (fun _ => rfl)
def row100 : Row := ⟨.other, 1, 8, [.nilFunc]⟩
theorem rowOk100 : RowOk Try.prog 100 row100 := rowOk_mk ⟨_, Try.underlying100, rfl⟩ (.nilFunc) (by kernel_rfl) rfl (fun h => by cases h) rfl rfl (fun _ => rfl) (fun _ => rfl)
def row101 : Row := ⟨.other, 1, 8, [.nilFunc]⟩
theorem rowOk101 : RowOk Try.prog 101 row101 := rowOk_mk ⟨_, Try.underlying101, rfl⟩ (.nilFunc) (by kernel_rfl) rfl (fun h => by cases h) rfl rfl (fun _ => rfl) (fun _ => rfl)
def row102 : Row := ⟨.other, 1, 8, [.nilFunc]⟩
theorem rowOk102 : RowOk Try.prog 102 row102 := rowOk_mk ⟨_, Try.underlying102, rfl⟩ (.nilFunc) (by kernel_rfl) rfl (fun h => by cases h) rfl rfl (fun _ => rfl) (fun _ => rfl)
def row103 : Row := ⟨.other, 1, 8, [.nilFunc]⟩
theorem rowOk103 : RowOk Try.prog 103 row103 := rowOk_mk ⟨_, Try.underlying103, rfl⟩ (.nilFunc) (by kernel_rfl) rfl (fun h => by cases h) rfl rfl (fun _ => rfl) (fun _ => rfl)
def row104 : Row := ⟨.other, 1, 8, [.nilFunc]⟩
theorem rowOk104 : RowOk Try.prog 104 row104 := rowOk_mk ⟨_, Try.underlying104, rfl⟩ (.nilFunc) (by kernel_rfl) rfl (fun h => by cases h) rfl rfl (fun _ => rfl) (fun _ => rfl)
def row105 : Row := ⟨.other, 1, 8, [.nilFunc]⟩
theorem rowOk105 : RowOk Try.prog 105 row105 := rowOk_mk ⟨_, Try.underlying105, rfl⟩ (.nilFunc) (by kernel_rfl) rfl (fun h => by cases h) rfl rfl (fun _ => rfl) (fun _ => rfl)
def row106 : Row := ⟨.other, 1, 8, [.nilFunc]⟩
theorem rowOk106 : RowOk Try.prog 106 row106 := rowOk_mk ⟨_, Try.underlying106, rfl⟩ (.nilFunc) (by kernel_rfl) rfl (fun h => by cases h) rfl rfl (fun _ => rfl) (fun _ => rfl)
def row107 : Row := ⟨.other, 1, 8, [.nilFunc]⟩
theorem rowOk107 : RowOk Try.prog 107 row107 := rowOk_mk ⟨_, Try.underlying107, rfl⟩ (.nilFunc) (by kernel_rfl) rfl (fun h => by cases h) rfl rfl (fun _ => rfl) (fun _ => rfl)
def row108 : Row := ⟨.other, 1, 8, [.nilFunc]⟩
theorem rowOk108 : RowOk Try.prog 108 row108 := rowOk_mk ⟨_, Try.underlying108, rfl⟩ (.nilFunc) (by kernel_rfl) rfl (fun h => by cases h) rfl rfl (fun _ => rfl) (fun _ => rfl)
def row109 : Row := ⟨.other, 1, 8, [.nilFunc]⟩
theorem rowOk109 : RowOk Try.prog 109 row109 := rowOk_mk ⟨_, Try.underlying109, rfl⟩ (.nilFunc) (by kernel_rfl) rfl (fun h => by cases h) rfl rfl (fun _ => rfl) (fun _ => rfl)
def row110 : Row := ⟨.other, 1, 8, [.nilFunc]⟩
theorem rowOk110 : RowOk Try.prog 110 row110 := rowOk_mk ⟨_, Try.underlying110, rfl⟩ (.nilFunc) (by kernel_rfl) rfl (fun h => by cases h) rfl rfl (fun _ => rfl) (fun _ => rfl)
def row111 : Row := ⟨.other, 1, 8, [.nilFunc]⟩
theorem rowOk111 : RowOk Try.prog 111 row111 := rowOk_mk ⟨_, Try.underlying111, rfl⟩ (.nilFunc) (by kernel_rfl) rfl (fun h => by cases h) rfl rfl (fun _ => rfl) (fun _ => rfl)
def row112 : Row := ⟨.map 3 4, 1, 8, [.map none]⟩
theorem rowOk112 : RowOk Try.prog 112 row112 := rowOk_mk Try.underlying112 (.map none) (by kernel_rfl) rfl (fun h => by cases h) rfl rfl (fun _ => rfl) (fun _ => rfl)
def row113 : Row := ⟨.other, 1, 8, [.nilFunc]⟩
theorem rowOk113 : RowOk Try.prog 113 row113 := rowOk_mk ⟨_, Try.underlying113, rfl⟩ (.nilFunc) (by kernel_rfl) rfl (fun h => by cases h) rfl rfl (fun _ => rfl) (fun _ => rfl)
def row114 : Row := ⟨.other, 1, 8, [.nilFunc]⟩
theorem rowOk114 : RowOk Try.prog 114 row114 := rowOk_mk ⟨_, Try.underlying114, rfl⟩ (.nilFunc) (by kernel_rfl) rfl (fun h => by cases h) rfl rfl (fun _ => rfl) (fun _ => rfl)
def row115 : Row := ⟨.other, 1, 8, [.nilFunc]⟩
theorem rowOk115 : RowOk Try.prog 115 row115 := rowOk_mk ⟨_, Try.underlying115, rfl⟩ (.nilFunc) (by kernel_rfl) rfl (fun h => by cases h) rfl rfl (fun _ => rfl) (fun _ => rfl)
def row116 : Row := ⟨.other, 1, 8, [.nilFunc]⟩
theorem rowOk116 : RowOk Try.prog 116 row116 := rowOk_mk ⟨_, Try.underlying116, rfl⟩ (.nilFunc) (by kernel_rfl) rfl (fun h => by cases h) rfl rfl (fun _ => rfl) (fun _ => rfl)
def row117 : Row := ⟨.other, 1, 8, [.nilFunc]⟩
theorem rowOk117 : RowOk Try.prog 117 row117 := rowOk_mk ⟨_, Try.underlying117, rfl⟩ (.nilFunc) (by kernel_rfl) rfl (fun h => by cases h) rfl rfl (fun _ => rfl) (fun _ => rfl)
def row118 : Row := ⟨.other, 1, 8, [.nilFunc]⟩
theorem rowOk118 : RowOk Try.prog 118 row118 := rowOk_mk ⟨_, Try.underlying118, rfl⟩ (.nilFunc) (by kernel_rfl) rfl (fun h => by cases h) rfl rfl (fun _ => rfl) (fun _ => rfl)
def row119 : Row := ⟨.other, 1, 8, [.nilFunc]⟩
theorem rowOk119 : RowOk Try.prog 119 row119 := rowOk_mk ⟨_, Try.underlying119, rfl⟩ (.nilFunc) (by kernel_rfl) rfl (fun h => by cases h) rfl rfl (fun _ => rfl) (fun _ => rfl)
def row120 : Row := ⟨.other, 1, 8, [.nilFunc]⟩
theorem rowOk120 : RowOk Try.prog 120 row120 := rowOk_mk ⟨_, Try.underlying120, rfl⟩ (.nilFunc) (by kernel_rfl) rfl (fun h => by cases h) rfl rfl (fun _ => rfl) (fun _ => rfl)
def row121 : Row := ⟨.other, 1, 8, [.nilFunc]⟩
theorem rowOk121 : RowOk Try.prog 121 row121 := rowOk_mk ⟨_, Try.underlying121, rfl⟩ (.nilFunc) (by kernel_rfl) rfl (fun h => by cases h) rfl rfl (fun _ => rfl) (fun _ => rfl)
def row122 : Row := ⟨.other, 1, 8, [.nilFunc]⟩
theorem rowOk122 : RowOk Try.prog 122 row122 := rowOk_mk ⟨_, Try.underlying122, rfl⟩ (.nilFunc) (by kernel_rfl) rfl (fun h => by cases h) rfl rfl (fun _ => rfl) (fun _ => rfl)
def row123 : Row := ⟨.other, 1, 8, [.nilFunc]⟩
theorem rowOk123 : RowOk Try.prog 123 row123 := rowOk_mk ⟨_, Try.underlying123, rfl⟩ (.nilFunc) (by kernel_rfl) rfl (fun h => by cases h) rfl rfl (fun _ => rfl) (fun _ => rfl)
def row124 : Row := ⟨.other, 1, 8, [.nilFunc]⟩
theorem rowOk124 : RowOk Try.prog 124 row124 := rowOk_mk ⟨_, Try.underlying124, rfl⟩ (.nilFunc) (by kernel_rfl) rfl (fun h => by cases h) rfl rfl (fun _ => rfl) (fun _ => rfl)
def row125 : Row := ⟨.other, 1, 8, [.nilFunc]⟩
theorem rowOk125 : RowOk Try.prog 125 row125 := rowOk_mk ⟨_, Try.underlying125, rfl⟩ (.nilFunc) (by kernel_rfl) rfl (fun h => by cases h) rfl rfl (fun _ => rfl) (fun _ => rfl)
def row126 : Row := ⟨.other, 1, 8, [.nilFunc]⟩
theorem rowOk126 : RowOk Try.prog 126 row126 := rowOk_mk ⟨_, Try.underlying126, rfl⟩ (.nilFunc) (by kernel_rfl) rfl (fun h => by cases h) rfl rfl (fun _ => rfl) (fun _ => rfl)
def row127 : Row := ⟨.struct [(0, 26), (1, 3)], 2, 32, [.slice none 0 0, .int .i64 0]⟩
theorem rowOk127 : RowOk Try.prog 127 row127 := rowOk_mk ⟨_, Try.underlying127, rfl⟩ (.agg #[.slice none 0 0, .int .i64 0]) (by kernel_rfl) rfl (fun _ => rfl) rfl rfl (fun h => by cases h) (fun h => by cases h)
def row128 : Row := ⟨.struct [(0, 26), (1, 3)], 2, 32, [.slice none 0 0, .int .i64 0]⟩
theorem rowOk128 : RowOk Try.prog 128 row128 := rowOk_mk ⟨_, Try.underlying128, rfl⟩ (.agg #[.slice none 0 0, .int .i64 0]) (by kernel_rfl) rfl (fun _ => rfl) rfl rfl (fun h => by cases h) (fun h => by cases h)
def row129 : Row := ⟨.other, 1, 8, [.nilFunc]⟩
theorem rowOk129 : RowOk Try.prog 129 row129 := rowOk_mk ⟨_, Try.underlying129, rfl⟩ (.nilFunc) (by kernel_rfl) rfl (fun h => by cases h) rfl rfl (fun _ => rfl) (fun _ => rfl)
def row130 : Row := ⟨.other, 1, 8, [.pointer none]⟩
theorem rowOk130 : RowOk Try.prog 130 row130 := rowOk_mk ⟨_, Try.underlying130, rfl⟩ (.pointer none) (by kernel_rfl) rfl (fun h => by cases h) rfl rfl (fun _ => rfl) (fun _ => rfl)
def row131 : Row := ⟨.other, 1, 8, [.nilFunc]⟩
theorem rowOk131 : RowOk Try.prog 131 row131 := rowOk_mk ⟨_, Try.underlying131, rfl⟩ (.nilFunc) (by kernel_rfl) rfl (fun h => by cases h) rfl rfl (fun _ => rfl) (fun _ => rfl)
def row132 : Row := ⟨.other, 1, 8, [.nilFunc]⟩
theorem rowOk132 : RowOk Try.prog 132 row132 := rowOk_mk ⟨_, Try.underlying132, rfl⟩ (.nilFunc) (by kernel_rfl) rfl (fun h => by cases h) rfl rfl (fun _ => rfl) (fun _ => rfl)
def row133 : Row := ⟨.other, 1, 8, [.nilFunc]⟩
theorem rowOk133 : RowOk Try.prog 133 row133 := rowOk_mk ⟨_, Try.underlying133, rfl⟩ (.nilFunc) (by kernel_rfl) rfl (fun h => by cases h) rfl rfl (fun _ => rfl) (fun _ => rfl)
def row134 : Row := ⟨.other, 1, 8, [.nilFunc]⟩
theorem rowOk134 : RowOk Try.prog 134 row134 := rowOk_mk ⟨_, Try.underlying134, rfl⟩ (.nilFunc) (by kernel_rfl) rfl (fun h => by cases h) rfl rfl (fun _ => rfl) (fun _ => rfl)
def row135 : Row := ⟨.other, 1, 8, [.nilFunc]⟩
theorem rowOk135 : RowOk Try.prog 135 row135 := rowOk_mk ⟨_, Try.underlying135, rfl⟩ (.nilFunc) (by kernel_rfl) rfl (fun h => by cases h) rfl rfl (fun _ => rfl) (fun _ => rfl)
def row136 : Row := ⟨.other, 1, 8, [.nilFunc]⟩
theorem rowOk136 : RowOk Try.prog 136 row136 := rowOk_mk ⟨_, Try.underlying136, rfl⟩ (.nilFunc) (by kernel_rfl) rfl (fun h => by cases h) rfl rfl (fun _ => rfl) (fun _ => rfl)
def row137 : Row := ⟨.struct [(0, 3), (1, 90), (7, 3), (8, 9)], 9, 104, [.int .i64 0, .int .i64 0, .int .i64 0, .int .i64 0, .string ⟨#[]⟩, .string ⟨#[]⟩, .string ⟨#[]⟩, .int .i64 0, .string ⟨#[]⟩]⟩
theorem rowOk137 : RowOk Try.prog 137 row137 := rowOk_mk ⟨_, Try.underlying137, rfl⟩ (.agg #[.int .i64 0, .int .i64 0, .int .i64 0, .int .i64 0, .string ⟨#[]⟩, .string ⟨#[]⟩, .string ⟨#[]⟩, .int .i64 0, .string ⟨#[]⟩]) (by kernel_rfl) rfl (fun _ => rfl) rfl rfl (fun h => by cases h) (fun h => by cases h)
def row138 : Row := ⟨.struct [(0, 3), (1, 90), (7, 3), (8, 9)], 9, 104, [.int .i64 0, .int .i64 0, .int .i64 0, .int .i64 0, .string ⟨#[]⟩, .string ⟨#[]⟩, .string ⟨#[]⟩, .int .i64 0, .string ⟨#[]⟩]⟩
theorem rowOk138 : RowOk Try.prog 138 row138 := rowOk_mk ⟨_, Try.underlying138, rfl⟩ (.agg #[.int .i64 0, .int .i64 0, .int .i64 0, .int .i64 0, .string ⟨#[]⟩, .string ⟨#[]⟩, .string ⟨#[]⟩, .int .i64 0, .string ⟨#[]⟩]) (by kernel_rfl) rfl (fun _ => rfl) rfl rfl (fun h => by cases h) (fun h => by cases h)
def row139 : Row := ⟨.other, 1, 8, [.nilFunc]⟩
theorem rowOk139 : RowOk Try.prog 139 row139 := rowOk_mk ⟨_, Try.underlying139, rfl⟩ (.nilFunc) (by kernel_rfl) rfl (fun h => by cases h) rfl rfl (fun _ => rfl) (fun _ => rfl)
def row140 : Row := ⟨.other, 1, 8, [.nilFunc]⟩
theorem rowOk140 : RowOk Try.prog 140 row140 := rowOk_mk ⟨_, Try.underlying140, rfl⟩ (.nilFunc) (by kernel_rfl) rfl (fun h => by cases h) rfl rfl (fun _ => rfl) (fun _ => rfl)
def row141 : Row := ⟨.other, 1, 8, [.nilFunc]⟩
theorem rowOk141 : RowOk Try.prog 141 row141 := rowOk_mk ⟨_, Try.underlying141, rfl⟩ (.nilFunc) (by kernel_rfl) rfl (fun h => by cases h) rfl rfl (fun _ => rfl) (fun _ => rfl)
def row142 : Row := ⟨.struct [(0, 3), (1, 97), (7, 3), (8, 9)], 9, 104, [.int .i64 0, .int .i64 0, .int .i64 0, .int .i64 0, .string ⟨#[]⟩, .string ⟨#[]⟩, .string ⟨#[]⟩, .int .i64 0, .string ⟨#[]⟩]⟩
theorem rowOk142 : RowOk Try.prog 142 row142 := rowOk_mk ⟨_, Try.underlying142, rfl⟩ (.agg #[.int .i64 0, .int .i64 0, .int .i64 0, .int .i64 0, .string ⟨#[]⟩, .string ⟨#[]⟩, .string ⟨#[]⟩, .int .i64 0, .string ⟨#[]⟩]) (by kernel_rfl) rfl (fun _ => rfl) rfl rfl (fun h => by cases h) (fun h => by cases h)
def row143 : Row := ⟨.struct [(0, 3), (1, 97), (7, 3), (8, 9)], 9, 104, [.int .i64 0, .int .i64 0, .int .i64 0, .int .i64 0, .string ⟨#[]⟩, .string ⟨#[]⟩, .string ⟨#[]⟩, .int .i64 0, .string ⟨#[]⟩]⟩
theorem rowOk143 : RowOk Try.prog 143 row143 := rowOk_mk ⟨_, Try.underlying143, rfl⟩ (.agg #[.int .i64 0, .int .i64 0, .int .i64 0, .int .i64 0, .string ⟨#[]⟩, .string ⟨#[]⟩, .string ⟨#[]⟩, .int .i64 0, .string ⟨#[]⟩]) (by kernel_rfl) rfl (fun _ => rfl) rfl rfl (fun h => by cases h) (fun h => by cases h)
def row144 : Row := ⟨.other, 1, 8, [.nilFunc]⟩
theorem rowOk144 : RowOk Try.prog 144 row144 := rowOk_mk ⟨_, Try.underlying144, rfl⟩ (.nilFunc) (by kernel_rfl) rfl (fun h => by cases h) rfl rfl (fun _ => rfl) (fun _ => rfl)
def row145 : Row := ⟨.map 97 150, 1, 8, [.map none]⟩
theorem rowOk145 : RowOk Try.prog 145 row145 := rowOk_mk Try.underlying145 (.map none) (by kernel_rfl) rfl (fun h => by cases h) rfl rfl (fun _ => rfl) (fun _ => rfl)
def row147 : Row := ⟨.other, 1, 8, [.nilFunc]⟩
theorem rowOk147 : RowOk Try.prog 147 row147 := rowOk_mk ⟨_, Try.underlying147, rfl⟩ (.nilFunc) (by kernel_rfl) rfl (fun h => by cases h) rfl rfl (fun _ => rfl) (fun _ => rfl)
def row148 : Row := ⟨.map 97 4, 1, 8, [.map none]⟩
theorem rowOk148 : RowOk Try.prog 148 row148 := rowOk_mk Try.underlying148 (.map none) (by kernel_rfl) rfl (fun h => by cases h) rfl rfl (fun _ => rfl) (fun _ => rfl)
def row149 : Row := ⟨.struct [(0, 3), (1, 3)], 2, 16, [.int .i64 0, .int .i64 0]⟩
theorem rowOk149 : RowOk Try.prog 149 row149 := rowOk_mk ⟨_, Try.underlying149, rfl⟩ (.agg #[.int .i64 0, .int .i64 0]) (by kernel_rfl) rfl (fun _ => rfl) rfl rfl (fun h => by cases h) (fun h => by cases h)
def row150 : Row := ⟨.struct [(0, 3), (1, 3)], 2, 16, [.int .i64 0, .int .i64 0]⟩
theorem rowOk150 : RowOk Try.prog 150 row150 := rowOk_mk ⟨_, Try.underlying150, rfl⟩ (.agg #[.int .i64 0, .int .i64 0]) (by kernel_rfl) rfl (fun _ => rfl) rfl rfl (fun h => by cases h) (fun h => by cases h)
def row152 : Row := ⟨.other, 1, 8, [.pointer none]⟩
theorem rowOk152 : RowOk Try.prog 152 row152 := rowOk_mk ⟨_, Try.underlying152, rfl⟩ (.pointer none) (by kernel_rfl) rfl (fun h => by cases h) rfl rfl (fun _ => rfl) (fun _ => rfl)
def row153 : Row := ⟨.other, 1, 8, [.nilFunc]⟩
theorem rowOk153 : RowOk Try.prog 153 row153 := rowOk_mk ⟨_, Try.underlying153, rfl⟩ (.nilFunc) (by kernel_rfl) rfl (fun h => by cases h) rfl rfl (fun _ => rfl) (fun _ => rfl)
def row155 : Row := ⟨.other, 1, 8, [.nilFunc]⟩
theorem rowOk155 : RowOk Try.prog 155 row155 := rowOk_mk ⟨_, Try.underlying155, rfl⟩ (.nilFunc) (by kernel_rfl) rfl (fun h => by cases h) rfl rfl (fun _ => rfl) (fun _ => rfl)
def row156 : Row := ⟨.other, 1, 8, [.nilFunc]⟩
theorem rowOk156 : RowOk Try.prog 156 row156 := rowOk_mk ⟨_, Try.underlying156, rfl⟩ (.nilFunc) (by kernel_rfl) rfl (fun h => by cases h) rfl rfl (fun _ => rfl) (fun _ => rfl)
def row157 : Row := ⟨.other, 1, 8, [.nilFunc]⟩
theorem rowOk157 : RowOk Try.prog 157 row157 := rowOk_mk ⟨_, Try.underlying157, rfl⟩ (.nilFunc) (by kernel_rfl) rfl (fun h => by cases h) rfl rfl (fun _ => rfl) (fun _ => rfl)
def row158 : Row := ⟨.other, 1, 8, [.nilFunc]⟩
theorem rowOk158 : RowOk Try.prog 158 row158 := rowOk_mk ⟨_, Try.underlying158, rfl⟩ (.nilFunc) (by kernel_rfl) rfl (fun h => by cases h) rfl rfl (fun _ => rfl) (fun _ => rfl)
def row159 : Row := ⟨.other, 1, 8, [.nilFunc]⟩
theorem rowOk159 : RowOk Try.prog 159 row159 := rowOk_mk ⟨_, Try.underlying159, rfl⟩ (.nilFunc) (by kernel_rfl) rfl (fun h => by cases h) rfl rfl (fun _ => rfl) (fun _ => rfl)
def row160 : Row := ⟨.other, 1, 8, [.nilFunc]⟩
theorem rowOk160 : RowOk Try.prog 160 row160 := rowOk_mk ⟨_, Try.underlying160, rfl⟩ (.nilFunc) (by kernel_rfl) rfl (fun h => by cases h) rfl rfl (fun _ => rfl) (fun _ => rfl)
def row161 : Row := ⟨.other, 1, 8, [.nilFunc]⟩
theorem rowOk161 : RowOk Try.prog 161 row161 := rowOk_mk ⟨_, Try.underlying161, rfl⟩ (.nilFunc) (by kernel_rfl) rfl (fun h => by cases h) rfl rfl (fun _ => rfl) (fun _ => rfl)
def row162 : Row := ⟨.struct [(0, 3), (1, 90)], 7, 80, [.int .i64 0, .int .i64 0, .int .i64 0, .int .i64 0, .string ⟨#[]⟩, .string ⟨#[]⟩, .string ⟨#[]⟩]⟩
theorem rowOk162 : RowOk Try.prog 162 row162 := rowOk_mk ⟨_, Try.underlying162, rfl⟩ (.agg #[.int .i64 0, .int .i64 0, .int .i64 0, .int .i64 0, .string ⟨#[]⟩, .string ⟨#[]⟩, .string ⟨#[]⟩]) (by kernel_rfl) rfl (fun _ => rfl) rfl rfl (fun h => by cases h) (fun h => by cases h)
def row163 : Row := ⟨.struct [(0, 3), (1, 90)], 7, 80, [.int .i64 0, .int .i64 0, .int .i64 0, .int .i64 0, .string ⟨#[]⟩, .string ⟨#[]⟩, .string ⟨#[]⟩]⟩
theorem rowOk163 : RowOk Try.prog 163 row163 := rowOk_mk ⟨_, Try.underlying163, rfl⟩ (.agg #[.int .i64 0, .int .i64 0, .int .i64 0, .int .i64 0, .string ⟨#[]⟩, .string ⟨#[]⟩, .string ⟨#[]⟩]) (by kernel_rfl) rfl (fun _ => rfl) rfl rfl (fun h => by cases h) (fun h => by cases h)
def row164 : Row := ⟨.other, 1, 8, [.nilFunc]⟩
theorem rowOk164 : RowOk Try.prog 164 row164 := rowOk_mk ⟨_, Try.underlying164, rfl⟩ (.nilFunc) (by kernel_rfl) rfl (fun h => by cases h) rfl rfl (fun _ => rfl) (fun _ => rfl)
def row165 : Row := ⟨.struct [(0, 3), (1, 97)], 7, 80, [.int .i64 0, .int .i64 0, .int .i64 0, .int .i64 0, .string ⟨#[]⟩, .string ⟨#[]⟩, .string ⟨#[]⟩]⟩
theorem rowOk165 : RowOk Try.prog 165 row165 := rowOk_mk ⟨_, Try.underlying165, rfl⟩ (.agg #[.int .i64 0, .int .i64 0, .int .i64 0, .int .i64 0, .string ⟨#[]⟩, .string ⟨#[]⟩, .string ⟨#[]⟩]) (by kernel_rfl) rfl (fun _ => rfl) rfl rfl (fun h => by cases h) (fun h => by cases h)
def row166 : Row := ⟨.struct [(0, 3), (1, 97)], 7, 80, [.int .i64 0, .int .i64 0, .int .i64 0, .int .i64 0, .string ⟨#[]⟩, .string ⟨#[]⟩, .string ⟨#[]⟩]⟩
theorem rowOk166 : RowOk Try.prog 166 row166 := rowOk_mk ⟨_, Try.underlying166, rfl⟩ (.agg #[.int .i64 0, .int .i64 0, .int .i64 0, .int .i64 0, .string ⟨#[]⟩, .string ⟨#[]⟩, .string ⟨#[]⟩]) (by kernel_rfl) rfl (fun _ => rfl) rfl rfl (fun h => by cases h) (fun h => by cases h)
def row167 : Row := ⟨.other, 1, 8, [.nilFunc]⟩
theorem rowOk167 : RowOk Try.prog 167 row167 := rowOk_mk ⟨_, Try.underlying167, rfl⟩ (.nilFunc) (by kernel_rfl) rfl (fun h => by cases h) rfl rfl (fun _ => rfl) (fun _ => rfl)
def row168 : Row := ⟨.other, 1, 8, [.nilFunc]⟩
theorem rowOk168 : RowOk Try.prog 168 row168 := rowOk_mk ⟨_, Try.underlying168, rfl⟩ (.nilFunc) (by kernel_rfl) rfl (fun h => by cases h) rfl rfl (fun _ => rfl) (fun _ => rfl)
def row169 : Row := ⟨.other, 1, 8, [.nilFunc]⟩
theorem rowOk169 : RowOk Try.prog 169 row169 := rowOk_mk ⟨_, Try.underlying169, rfl⟩ (.nilFunc) (by kernel_rfl) rfl (fun h => by cases h) rfl rfl (fun _ => rfl) (fun _ => rfl)
def row170 : Row := ⟨.other, 1, 8, [.nilFunc]⟩
theorem rowOk170 : RowOk Try.prog 170 row170 := rowOk_mk ⟨_, Try.underlying170, rfl⟩ (.nilFunc) (by kernel_rfl) rfl (fun h => by cases h) rfl rfl (fun _ => rfl) (fun _ => rfl)
def row171 : Row := ⟨.other, 1, 8, [.nilFunc]⟩
theorem rowOk171 : RowOk Try.prog 171 row171 := rowOk_mk ⟨_, Try.underlying171, rfl⟩ (.nilFunc) (by kernel_rfl) rfl (fun h => by cases h) rfl rfl (fun _ => rfl) (fun _ => rfl)
def row172 : Row := ⟨.other, 1, 8, [.nilFunc]⟩
theorem rowOk172 : RowOk Try.prog 172 row172 := rowOk_mk ⟨_, Try.underlying172, rfl⟩ (.nilFunc) (by kernel_rfl) rfl (fun h => by cases h) rfl rfl (fun _ => rfl) (fun _ => rfl)
def row173 : Row := ⟨.other, 1, 8, [.nilFunc]⟩
theorem rowOk173 : RowOk Try.prog 173 row173 := rowOk_mk ⟨_, Try.underlying173, rfl⟩ (.nilFunc) (by kernel_rfl) rfl (fun h => by cases h) rfl rfl (fun _ => rfl) (fun _ => rfl)
def row174 : Row := ⟨.other, 1, 8, [.nilFunc]⟩
theorem rowOk174 : RowOk Try.prog 174 row174 := rowOk_mk ⟨_, Try.underlying174, rfl⟩ (.nilFunc) (by kernel_rfl) rfl (fun h => by cases h) rfl rfl (fun _ => rfl) (fun _ => rfl)
def row175 : Row := ⟨.other, 1, 8, [.nilFunc]⟩
theorem rowOk175 : RowOk Try.prog 175 row175 := rowOk_mk ⟨_, Try.underlying175, rfl⟩ (.nilFunc) (by kernel_rfl) rfl (fun h => by cases h) rfl rfl (fun _ => rfl) (fun _ => rfl)
def row176 : Row := ⟨.other, 1, 8, [.nilFunc]⟩
theorem rowOk176 : RowOk Try.prog 176 row176 := rowOk_mk ⟨_, Try.underlying176, rfl⟩ (.nilFunc) (by kernel_rfl) rfl (fun h => by cases h) rfl rfl (fun _ => rfl) (fun _ => rfl)
def row177 : Row := ⟨.other, 1, 8, [.nilFunc]⟩
theorem rowOk177 : RowOk Try.prog 177 row177 := rowOk_mk ⟨_, Try.underlying177, rfl⟩ (.nilFunc) (by kernel_rfl) rfl (fun h => by cases h) rfl rfl (fun _ => rfl) (fun _ => rfl)
def row178 : Row := ⟨.other, 1, 8, [.nilFunc]⟩
theorem rowOk178 : RowOk Try.prog 178 row178 := rowOk_mk ⟨_, Try.underlying178, rfl⟩ (.nilFunc) (by kernel_rfl) rfl (fun h => by cases h) rfl rfl (fun _ => rfl) (fun _ => rfl)
def row179 : Row := ⟨.other, 1, 8, [.nilFunc]⟩
theorem rowOk179 : RowOk Try.prog 179 row179 := rowOk_mk ⟨_, Try.underlying179, rfl⟩ (.nilFunc) (by kernel_rfl) rfl (fun h => by cases h) rfl rfl (fun _ => rfl) (fun _ => rfl)
def row180 : Row := ⟨.other, 1, 8, [.nilFunc]⟩
theorem rowOk180 : RowOk Try.prog 180 row180 := rowOk_mk ⟨_, Try.underlying180, rfl⟩ (.nilFunc) (by kernel_rfl) rfl (fun h => by cases h) rfl rfl (fun _ => rfl) (fun _ => rfl)
def row181 : Row := ⟨.other, 1, 8, [.nilFunc]⟩
theorem rowOk181 : RowOk Try.prog 181 row181 := rowOk_mk ⟨_, Try.underlying181, rfl⟩ (.nilFunc) (by kernel_rfl) rfl (fun h => by cases h) rfl rfl (fun _ => rfl) (fun _ => rfl)
def row182 : Row := ⟨.other, 1, 8, [.nilFunc]⟩
theorem rowOk182 : RowOk Try.prog 182 row182 := rowOk_mk ⟨_, Try.underlying182, rfl⟩ (.nilFunc) (by kernel_rfl) rfl (fun h => by cases h) rfl rfl (fun _ => rfl) (fun _ => rfl)
def row183 : Row := ⟨.struct [(0, 3), (1, 3), (2, 3), (3, 26)], 4, 48, [.int .i64 0, .int .i64 0, .int .i64 0, .slice none 0 0]⟩
theorem rowOk183 : RowOk Try.prog 183 row183 := rowOk_mk ⟨_, Try.underlying183, rfl⟩ (.agg #[.int .i64 0, .int .i64 0, .int .i64 0, .slice none 0 0]) (by kernel_rfl) rfl (fun _ => rfl) rfl rfl (fun h => by cases h) (fun h => by cases h)
def row184 : Row := ⟨.other, 1, 8, [.nilFunc]⟩
theorem rowOk184 : RowOk Try.prog 184 row184 := rowOk_mk ⟨_, Try.underlying184, rfl⟩ (.nilFunc) (by kernel_rfl) rfl (fun h => by cases h) rfl rfl (fun _ => rfl) (fun _ => rfl)
def row185 : Row := ⟨.other, 1, 8, [.nilFunc]⟩
theorem rowOk185 : RowOk Try.prog 185 row185 := rowOk_mk ⟨_, Try.underlying185, rfl⟩ (.nilFunc) (by kernel_rfl) rfl (fun h => by cases h) rfl rfl (fun _ => rfl) (fun _ => rfl)
def row186 : Row := ⟨.other, 1, 8, [.nilFunc]⟩
theorem rowOk186 : RowOk Try.prog 186 row186 := rowOk_mk ⟨_, Try.underlying186, rfl⟩ (.nilFunc) (by kernel_rfl) rfl (fun h => by cases h) rfl rfl (fun _ => rfl) (fun _ => rfl)
def row187 : Row := ⟨.other, 1, 8, [.nilFunc]⟩
theorem rowOk187 : RowOk Try.prog 187 row187 := rowOk_mk ⟨_, Try.underlying187, rfl⟩ (.nilFunc) (by kernel_rfl) rfl (fun h => by cases h) rfl rfl (fun _ => rfl) (fun _ => rfl)
def row188 : Row := ⟨.struct [(0, 3), (1, 3), (2, 3), (3, 3), (4, 3), (5, 3), (6, 3), (7, 3), (8, 3), (9, 78)], 10, 96, [.int .i64 0, .int .i64 0, .int .i64 0, .int .i64 0, .int .i64 0, .int .i64 0, .int .i64 0, .int .i64 0, .int .i64 0, .slice none 0 0]⟩
theorem rowOk188 : RowOk Try.prog 188 row188 := rowOk_mk ⟨_, Try.underlying188, rfl⟩ (.agg #[.int .i64 0, .int .i64 0, .int .i64 0, .int .i64 0, .int .i64 0, .int .i64 0, .int .i64 0, .int .i64 0, .int .i64 0, .slice none 0 0]) (by kernel_rfl) rfl (fun _ => rfl) rfl rfl (fun h => by cases h) (fun h => by cases h)
def row189 : Row := ⟨.struct [(0, 3), (1, 3), (2, 3), (3, 3), (4, 3), (5, 3), (6, 3), (7, 3), (8, 3), (9, 78)], 10, 96, [.int .i64 0, .int .i64 0, .int .i64 0, .int .i64 0, .int .i64 0, .int .i64 0, .int .i64 0, .int .i64 0, .int .i64 0, .slice none 0 0]⟩
theorem rowOk189 : RowOk Try.prog 189 row189 := rowOk_mk ⟨_, Try.underlying189, rfl⟩ (.agg #[.int .i64 0, .int .i64 0, .int .i64 0, .int .i64 0, .int .i64 0, .int .i64 0, .int .i64 0, .int .i64 0, .int .i64 0, .slice none 0 0]) (by kernel_rfl) rfl (fun _ => rfl) rfl rfl (fun h => by cases h) (fun h => by cases h)
def row190 : Row := ⟨.other, 1, 8, [.nilFunc]⟩
theorem rowOk190 : RowOk Try.prog 190 row190 := rowOk_mk ⟨_, Try.underlying190, rfl⟩ (.nilFunc) (by kernel_rfl) rfl (fun h => by cases h) rfl rfl (fun _ => rfl) (fun _ => rfl)
def row191 : Row := ⟨.struct [(0, 3), (1, 3), (2, 3), (3, 9)], 4, 40, [.int .i64 0, .int .i64 0, .int .i64 0, .string ⟨#[]⟩]⟩
theorem rowOk191 : RowOk Try.prog 191 row191 := rowOk_mk ⟨_, Try.underlying191, rfl⟩ (.agg #[.int .i64 0, .int .i64 0, .int .i64 0, .string ⟨#[]⟩]) (by kernel_rfl) rfl (fun _ => rfl) rfl rfl (fun h => by cases h) (fun h => by cases h)
def row192 : Row := ⟨.struct [(0, 3), (1, 3), (2, 3), (3, 9)], 4, 40, [.int .i64 0, .int .i64 0, .int .i64 0, .string ⟨#[]⟩]⟩
theorem rowOk192 : RowOk Try.prog 192 row192 := rowOk_mk ⟨_, Try.underlying192, rfl⟩ (.agg #[.int .i64 0, .int .i64 0, .int .i64 0, .string ⟨#[]⟩]) (by kernel_rfl) rfl (fun _ => rfl) rfl rfl (fun h => by cases h) (fun h => by cases h)
def row193 : Row := ⟨.other, 1, 8, [.nilFunc]⟩
theorem rowOk193 : RowOk Try.prog 193 row193 := rowOk_mk ⟨_, Try.underlying193, rfl⟩ (.nilFunc) (by kernel_rfl) rfl (fun h => by cases h) rfl rfl (fun _ => rfl) (fun _ => rfl)
def row195 : Row := ⟨.other, 1, 8, [.nilFunc]⟩
theorem rowOk195 : RowOk Try.prog 195 row195 := rowOk_mk ⟨_, Try.underlying195, rfl⟩ (.nilFunc) (by kernel_rfl) rfl (fun h => by cases h) rfl rfl (fun _ => rfl) (fun _ => rfl)
def row196 : Row := ⟨.other, 1, 8, [.nilFunc]⟩
theorem rowOk196 : RowOk Try.prog 196 row196 := rowOk_mk ⟨_, Try.underlying196, rfl⟩ (.nilFunc) (by kernel_rfl) rfl (fun h => by cases h) rfl rfl (fun _ => rfl) (fun _ => rfl)
def row197 : Row := ⟨.other, 1, 8, [.nilFunc]⟩
theorem rowOk197 : RowOk Try.prog 197 row197 := rowOk_mk ⟨_, Try.underlying197, rfl⟩ (.nilFunc) (by kernel_rfl) rfl (fun h => by cases h) rfl rfl (fun _ => rfl) (fun _ => rfl)
def row198 : Row := ⟨.map 3 97, 1, 8, [.map none]⟩
theorem rowOk198 : RowOk Try.prog 198 row198 := rowOk_mk Try.underlying198 (.map none) (by kernel_rfl) rfl (fun h => by cases h) rfl rfl (fun _ => rfl) (fun _ => rfl)
def row199 : Row := ⟨.map 3 3, 1, 8, [.map none]⟩
theorem rowOk199 : RowOk Try.prog 199 row199 := rowOk_mk Try.underlying199 (.map none) (by kernel_rfl) rfl (fun h => by cases h) rfl rfl (fun _ => rfl) (fun _ => rfl)
def row201 : Row := ⟨.map 9 9, 1, 8, [.map none]⟩
theorem rowOk201 : RowOk Try.prog 201 row201 := rowOk_mk Try.underlying201 (.map none) (by kernel_rfl) rfl (fun h => by cases h) rfl rfl (fun _ => rfl) (fun _ => rfl)
def row202 : Row := ⟨.map 3 192, 1, 8, [.map none]⟩
theorem rowOk202 : RowOk Try.prog 202 row202 := rowOk_mk Try.underlying202 (.map none) (by kernel_rfl) rfl (fun h => by cases h) rfl rfl (fun _ => rfl) (fun _ => rfl)
def row203 : Row := ⟨.struct [(0, 201), (1, 202)], 2, 16, [.map none, .map none]⟩
theorem rowOk203 : RowOk Try.prog 203 row203 := rowOk_mk ⟨_, Try.underlying203, rfl⟩ (.agg #[.map none, .map none]) (by kernel_rfl) rfl (fun _ => rfl) rfl rfl (fun h => by cases h) (fun h => by cases h)
def row204 : Row := ⟨.struct [(0, 201), (1, 202)], 2, 16, [.map none, .map none]⟩
theorem rowOk204 : RowOk Try.prog 204 row204 := rowOk_mk ⟨_, Try.underlying204, rfl⟩ (.agg #[.map none, .map none]) (by kernel_rfl) rfl (fun _ => rfl) rfl rfl (fun h => by cases h) (fun h => by cases h)
def row205 : Row := ⟨.struct [(0, 9), (1, 9)], 2, 32, [.string ⟨#[]⟩, .string ⟨#[]⟩]⟩
theorem rowOk205 : RowOk Try.prog 205 row205 := rowOk_mk ⟨_, Try.underlying205, rfl⟩ (.agg #[.string ⟨#[]⟩, .string ⟨#[]⟩]) (by kernel_rfl) rfl (fun _ => rfl) rfl rfl (fun h => by cases h) (fun h => by cases h)
def row206 : Row := ⟨.struct [(0, 9), (1, 9)], 2, 32, [.string ⟨#[]⟩, .string ⟨#[]⟩]⟩
theorem rowOk206 : RowOk Try.prog 206 row206 := rowOk_mk ⟨_, Try.underlying206, rfl⟩ (.agg #[.string ⟨#[]⟩, .string ⟨#[]⟩]) (by kernel_rfl) rfl (fun _ => rfl) rfl rfl (fun h => by cases h) (fun h => by cases h)
def row208 : Row := ⟨.other, 1, 8, [.nilFunc]⟩
theorem rowOk208 : RowOk Try.prog 208 row208 := rowOk_mk ⟨_, Try.underlying208, rfl⟩ (.nilFunc) (by kernel_rfl) rfl (fun h => by cases h) rfl rfl (fun _ => rfl) (fun _ => rfl)
def row209 : Row := ⟨.other, 1, 8, [.nilFunc]⟩
theorem rowOk209 : RowOk Try.prog 209 row209 := rowOk_mk ⟨_, Try.underlying209, rfl⟩ (.nilFunc) (by kernel_rfl) rfl (fun h => by cases h) rfl rfl (fun _ => rfl) (fun _ => rfl)
def row210 : Row := ⟨.slice 9, 1, 24, [.slice none 0 0]⟩
theorem rowOk210 : RowOk Try.prog 210 row210 := rowOk_mk Try.underlying210 (.slice none 0 0) (by kernel_rfl) rfl (fun h => by cases h) rfl rfl (fun _ => rfl) (fun _ => rfl)
def row211 : Row := ⟨.other, 1, 8, [.nilFunc]⟩
theorem rowOk211 : RowOk Try.prog 211 row211 := rowOk_mk ⟨_, Try.underlying211, rfl⟩ (.nilFunc) (by kernel_rfl) rfl (fun h => by cases h) rfl rfl (fun _ => rfl) (fun _ => rfl)
def row212 : Row := ⟨.other, 1, 8, [.nilFunc]⟩
theorem rowOk212 : RowOk Try.prog 212 row212 := rowOk_mk ⟨_, Try.underlying212, rfl⟩ (.nilFunc) (by kernel_rfl) rfl (fun h => by cases h) rfl rfl (fun _ => rfl) (fun _ => rfl)
def row213 : Row := ⟨.other, 1, 8, [.nilFunc]⟩
theorem rowOk213 : RowOk Try.prog 213 row213 := rowOk_mk ⟨_, Try.underlying213, rfl⟩ (.nilFunc) (by kernel_rfl) rfl (fun h => by cases h) rfl rfl (fun _ => rfl) (fun _ => rfl)
def row214 : Row := ⟨.other, 1, 8, [.nilFunc]⟩
theorem rowOk214 : RowOk Try.prog 214 row214 := rowOk_mk ⟨_, Try.underlying214, rfl⟩ (.nilFunc) (by kernel_rfl) rfl (fun h => by cases h) rfl rfl (fun _ => rfl) (fun _ => rfl)
def row215 : Row := ⟨.other, 1, 8, [.nilFunc]⟩
theorem rowOk215 : RowOk Try.prog 215 row215 := rowOk_mk ⟨_, Try.underlying215, rfl⟩ (.nilFunc) (by kernel_rfl) rfl (fun h => by cases h) rfl rfl (fun _ => rfl) (fun _ => rfl)
def row216 : Row := ⟨.other, 1, 8, [.nilFunc]⟩
theorem rowOk216 : RowOk Try.prog 216 row216 := rowOk_mk ⟨_, Try.underlying216, rfl⟩ (.nilFunc) (by kernel_rfl) rfl (fun h => by cases h) rfl rfl (fun _ => rfl) (fun _ => rfl)
def row217 : Row := ⟨.other, 1, 8, [.nilFunc]⟩
theorem rowOk217 : RowOk Try.prog 217 row217 := rowOk_mk ⟨_, Try.underlying217, rfl⟩ (.nilFunc) (by kernel_rfl) rfl (fun h => by cases h) rfl rfl (fun _ => rfl) (fun _ => rfl)
def row218 : Row := ⟨.other, 1, 8, [.nilFunc]⟩
theorem rowOk218 : RowOk Try.prog 218 row218 := rowOk_mk ⟨_, Try.underlying218, rfl⟩ (.nilFunc) (by kernel_rfl) rfl (fun h => by cases h) rfl rfl (fun _ => rfl) (fun _ => rfl)
def row219 : Row := ⟨.struct [(0, 9), (1, 9)], 2, 32, [.string ⟨#[]⟩, .string ⟨#[]⟩]⟩
theorem rowOk219 : RowOk Try.prog 219 row219 := rowOk_mk ⟨_, Try.underlying219, rfl⟩ (.agg #[.string ⟨#[]⟩, .string ⟨#[]⟩]) (by kernel_rfl) rfl (fun _ => rfl) rfl rfl (fun h => by cases h) (fun h => by cases h)
def row220 : Row := ⟨.other, 1, 8, [.nilFunc]⟩
theorem rowOk220 : RowOk Try.prog 220 row220 := rowOk_mk ⟨_, Try.underlying220, rfl⟩ (.nilFunc) (by kernel_rfl) rfl (fun h => by cases h) rfl rfl (fun _ => rfl) (fun _ => rfl)
def row221 : Row := ⟨.struct [(0, 3), (1, 3), (2, 3), (3, 9)], 4, 40, [.int .i64 0, .int .i64 0, .int .i64 0, .string ⟨#[]⟩]⟩
theorem rowOk221 : RowOk Try.prog 221 row221 := rowOk_mk ⟨_, Try.underlying221, rfl⟩ (.agg #[.int .i64 0, .int .i64 0, .int .i64 0, .string ⟨#[]⟩]) (by kernel_rfl) rfl (fun _ => rfl) rfl rfl (fun h => by cases h) (fun h => by cases h)
def row222 : Row := ⟨.other, 1, 8, [.nilFunc]⟩
theorem rowOk222 : RowOk Try.prog 222 row222 := rowOk_mk ⟨_, Try.underlying222, rfl⟩ (.nilFunc) (by kernel_rfl) rfl (fun h => by cases h) rfl rfl (fun _ => rfl) (fun _ => rfl)
def row223 : Row := ⟨.other, 1, 8, [.nilFunc]⟩
theorem rowOk223 : RowOk Try.prog 223 row223 := rowOk_mk ⟨_, Try.underlying223, rfl⟩ (.nilFunc) (by kernel_rfl) rfl (fun h => by cases h) rfl rfl (fun _ => rfl) (fun _ => rfl)
def row224 : Row := ⟨.other, 1, 8, [.nilFunc]⟩
theorem rowOk224 : RowOk Try.prog 224 row224 := rowOk_mk ⟨_, Try.underlying224, rfl⟩ (.nilFunc) (by kernel_rfl) rfl (fun h => by cases h) rfl rfl (fun _ => rfl) (fun _ => rfl)
def row225 : Row := ⟨.other, 1, 8, [.nilFunc]⟩
theorem rowOk225 : RowOk Try.prog 225 row225 := rowOk_mk ⟨_, Try.underlying225, rfl⟩ (.nilFunc) (by kernel_rfl) rfl (fun h => by cases h) rfl rfl (fun _ => rfl) (fun _ => rfl)
def row226 : Row := ⟨.other, 1, 8, [.nilFunc]⟩
theorem rowOk226 : RowOk Try.prog 226 row226 := rowOk_mk ⟨_, Try.underlying226, rfl⟩ (.nilFunc) (by kernel_rfl) rfl (fun h => by cases h) rfl rfl (fun _ => rfl) (fun _ => rfl)
def row227 : Row := ⟨.other, 1, 8, [.nilFunc]⟩
theorem rowOk227 : RowOk Try.prog 227 row227 := rowOk_mk ⟨_, Try.underlying227, rfl⟩ (.nilFunc) (by kernel_rfl) rfl (fun h => by cases h) rfl rfl (fun _ => rfl) (fun _ => rfl)
def row228 : Row := ⟨.other, 1, 8, [.nilFunc]⟩
theorem rowOk228 : RowOk Try.prog 228 row228 := rowOk_mk ⟨_, Try.underlying228, rfl⟩ (.nilFunc) (by kernel_rfl) rfl (fun h => by cases h) rfl rfl (fun _ => rfl) (fun _ => rfl)
def row229 : Row := ⟨.int .u64, 1, 8, [.int .u64 0]⟩
theorem rowOk229 : RowOk Try.prog 229 row229 := rowOk_mk Try.underlying229 (.int .u64 0) (by kernel_rfl) rfl (fun h => by cases h) rfl rfl (fun _ => rfl) (fun _ => rfl)
def row230 : Row := ⟨.other, 1, 8, [.nilFunc]⟩
theorem rowOk230 : RowOk Try.prog 230 row230 := rowOk_mk ⟨_, Try.underlying230, rfl⟩ (.nilFunc) (by kernel_rfl) rfl (fun h => by cases h) rfl rfl (fun _ => rfl) (fun _ => rfl)
def row231 : Row := ⟨.other, 1, 8, [.nilFunc]⟩
theorem rowOk231 : RowOk Try.prog 231 row231 := rowOk_mk ⟨_, Try.underlying231, rfl⟩ (.nilFunc) (by kernel_rfl) rfl (fun h => by cases h) rfl rfl (fun _ => rfl) (fun _ => rfl)
def row232 : Row := ⟨.other, 1, 8, [.nilFunc]⟩
theorem rowOk232 : RowOk Try.prog 232 row232 := rowOk_mk ⟨_, Try.underlying232, rfl⟩ (.nilFunc) (by kernel_rfl) rfl (fun h => by cases h) rfl rfl (fun _ => rfl) (fun _ => rfl)
def row233 : Row := ⟨.other, 1, 8, [.nilFunc]⟩
theorem rowOk233 : RowOk Try.prog 233 row233 := rowOk_mk ⟨_, Try.underlying233, rfl⟩ (.nilFunc) (by kernel_rfl) rfl (fun h => by cases h) rfl rfl (fun _ => rfl) (fun _ => rfl)
def row234 : Row := ⟨.other, 1, 8, [.nilFunc]⟩
theorem rowOk234 : RowOk Try.prog 234 row234 := rowOk_mk ⟨_, Try.underlying234, rfl⟩ (.nilFunc) (by kernel_rfl) rfl (fun h => by cases h) rfl rfl (fun _ => rfl) (fun _ => rfl)
def row235 : Row := ⟨.other, 1, 8, [.nilFunc]⟩
theorem rowOk235 : RowOk Try.prog 235 row235 := rowOk_mk ⟨_, Try.underlying235, rfl⟩ (.nilFunc) (by kernel_rfl) rfl (fun h => by cases h) rfl rfl (fun _ => rfl) (fun _ => rfl)
def row236 : Row := ⟨.slice 4, 1, 24, [.slice none 0 0]⟩
theorem rowOk236 : RowOk Try.prog 236 row236 := rowOk_mk Try.underlying236 (.slice none 0 0) (by kernel_rfl) rfl (fun h => by cases h) rfl rfl (fun _ => rfl) (fun _ => rfl)
def row237 : Row := ⟨.other, 1, 8, [.nilFunc]⟩
theorem rowOk237 : RowOk Try.prog 237 row237 := rowOk_mk ⟨_, Try.underlying237, rfl⟩ (.nilFunc) (by kernel_rfl) rfl (fun h => by cases h) rfl rfl (fun _ => rfl) (fun _ => rfl)
def row238 : Row := ⟨.int .i64, 1, 8, [.int .i64 0]⟩
theorem rowOk238 : RowOk Try.prog 238 row238 := rowOk_mk Try.underlying238 (.int .i64 0) (by kernel_rfl) rfl (fun h => by cases h) rfl rfl (fun _ => rfl) (fun _ => rfl)
def row240 : Row := ⟨.other, 1, 8, [.nilFunc]⟩
theorem rowOk240 : RowOk Try.prog 240 row240 := rowOk_mk ⟨_, Try.underlying240, rfl⟩ (.nilFunc) (by kernel_rfl) rfl (fun h => by cases h) rfl rfl (fun _ => rfl) (fun _ => rfl)
def row241 : Row := ⟨.other, 1, 8, [.nilFunc]⟩
theorem rowOk241 : RowOk Try.prog 241 row241 := rowOk_mk ⟨_, Try.underlying241, rfl⟩ (.nilFunc) (by kernel_rfl) rfl (fun h => by cases h) rfl rfl (fun _ => rfl) (fun _ => rfl)
def row242 : Row := ⟨.other, 1, 8, [.nilFunc]⟩
theorem rowOk242 : RowOk Try.prog 242 row242 := rowOk_mk ⟨_, Try.underlying242, rfl⟩ (.nilFunc) (by kernel_rfl) rfl (fun h => by cases h) rfl rfl (fun _ => rfl) (fun _ => rfl)
def row243 : Row := ⟨.other, 1, 8, [.nilFunc]⟩
theorem rowOk243 : RowOk Try.prog 243 row243 := rowOk_mk ⟨_, Try.underlying243, rfl⟩ (.nilFunc) (by kernel_rfl) rfl (fun h => by cases h) rfl rfl (fun _ => rfl) (fun _ => rfl)
def row245 : Row := ⟨.other, 1, 8, [.nilFunc]⟩
theorem rowOk245 : RowOk Try.prog 245 row245 := rowOk_mk ⟨_, Try.underlying245, rfl⟩ (.nilFunc) (by kernel_rfl) rfl (fun h => by cases h) rfl rfl (fun _ => rfl) (fun _ => rfl)
def row246 : Row := ⟨.other, 1, 8, [.nilFunc]⟩
theorem rowOk246 : RowOk Try.prog 246 row246 := rowOk_mk ⟨_, Try.underlying246, rfl⟩ (.nilFunc) (by kernel_rfl) rfl (fun h => by cases h) rfl rfl (fun _ => rfl) (fun _ => rfl)
def row247 : Row := ⟨.int .u32, 1, 4, [.int .u32 0]⟩
theorem rowOk247 : RowOk Try.prog 247 row247 := rowOk_mk Try.underlying247 (.int .u32 0) (by kernel_rfl) rfl (fun h => by cases h) rfl rfl (fun _ => rfl) (fun _ => rfl)
def row248 : Row := ⟨.other, 1, 8, [.nilFunc]⟩
theorem rowOk248 : RowOk Try.prog 248 row248 := rowOk_mk ⟨_, Try.underlying248, rfl⟩ (.nilFunc) (by kernel_rfl) rfl (fun h => by cases h) rfl rfl (fun _ => rfl) (fun _ => rfl)
def row249 : Row := ⟨.int .u64, 1, 8, [.int .u64 0]⟩
theorem rowOk249 : RowOk Try.prog 249 row249 := rowOk_mk Try.underlying249 (.int .u64 0) (by kernel_rfl) rfl (fun h => by cases h) rfl rfl (fun _ => rfl) (fun _ => rfl)
def row250 : Row := ⟨.other, 1, 8, [.nilFunc]⟩
theorem rowOk250 : RowOk Try.prog 250 row250 := rowOk_mk ⟨_, Try.underlying250, rfl⟩ (.nilFunc) (by kernel_rfl) rfl (fun h => by cases h) rfl rfl (fun _ => rfl) (fun _ => rfl)
def row251 : Row := ⟨.other, 1, 8, [.nilFunc]⟩
theorem rowOk251 : RowOk Try.prog 251 row251 := rowOk_mk ⟨_, Try.underlying251, rfl⟩ (.nilFunc) (by kernel_rfl) rfl (fun h => by cases h) rfl rfl (fun _ => rfl) (fun _ => rfl)
def row252 : Row := ⟨.other, 1, 8, [.nilFunc]⟩
theorem rowOk252 : RowOk Try.prog 252 row252 := rowOk_mk ⟨_, Try.underlying252, rfl⟩ (.nilFunc) (by kernel_rfl) rfl (fun h => by cases h) rfl rfl (fun _ => rfl) (fun _ => rfl)
def row253 : Row := ⟨.other, 1, 8, [.nilFunc]⟩
theorem rowOk253 : RowOk Try.prog 253 row253 := rowOk_mk ⟨_, Try.underlying253, rfl⟩ (.nilFunc) (by kernel_rfl) rfl (fun h => by cases h) rfl rfl (fun _ => rfl) (fun _ => rfl)
def row254 : Row := ⟨.other, 1, 8, [.nilFunc]⟩
theorem rowOk254 : RowOk Try.prog 254 row254 := rowOk_mk ⟨_, Try.underlying254, rfl⟩ (.nilFunc) (by kernel_rfl) rfl (fun h => by cases h) rfl rfl (fun _ => rfl) (fun _ => rfl)
def row255 : Row := ⟨.other, 1, 8, [.nilFunc]⟩
theorem rowOk255 : RowOk Try.prog 255 row255 := rowOk_mk ⟨_, Try.underlying255, rfl⟩ (.nilFunc) (by kernel_rfl) rfl (fun h => by cases h) rfl rfl (fun _ => rfl) (fun _ => rfl)
def row256 : Row := ⟨.other, 1, 8, [.nilFunc]⟩
theorem rowOk256 : RowOk Try.prog 256 row256 := rowOk_mk ⟨_, Try.underlying256, rfl⟩ (.nilFunc) (by kernel_rfl) rfl (fun h => by cases h) rfl rfl (fun _ => rfl) (fun _ => rfl)
def row257 : Row := ⟨.int .u64, 1, 8, [.int .u64 0]⟩
theorem rowOk257 : RowOk Try.prog 257 row257 := rowOk_mk Try.underlying257 (.int .u64 0) (by kernel_rfl) rfl (fun h => by cases h) rfl rfl (fun _ => rfl) (fun _ => rfl)
def row258 : Row := ⟨.other, 1, 8, [.nilFunc]⟩
theorem rowOk258 : RowOk Try.prog 258 row258 := rowOk_mk ⟨_, Try.underlying258, rfl⟩ (.nilFunc) (by kernel_rfl) rfl (fun h => by cases h) rfl rfl (fun _ => rfl) (fun _ => rfl)
def row259 : Row := ⟨.other, 1, 8, [.nilFunc]⟩
theorem rowOk259 : RowOk Try.prog 259 row259 := rowOk_mk ⟨_, Try.underlying259, rfl⟩ (.nilFunc) (by kernel_rfl) rfl (fun h => by cases h) rfl rfl (fun _ => rfl) (fun _ => rfl)
def row260 : Row := ⟨.other, 1, 8, [.nilFunc]⟩
theorem rowOk260 : RowOk Try.prog 260 row260 := rowOk_mk ⟨_, Try.underlying260, rfl⟩ (.nilFunc) (by kernel_rfl) rfl (fun h => by cases h) rfl rfl (fun _ => rfl) (fun _ => rfl)
def row261 : Row := ⟨.other, 1, 8, [.pointer none]⟩
theorem rowOk261 : RowOk Try.prog 261 row261 := rowOk_mk ⟨_, Try.underlying261, rfl⟩ (.pointer none) (by kernel_rfl) rfl (fun h => by cases h) rfl rfl (fun _ => rfl) (fun _ => rfl)
def row262 : Row := ⟨.other, 1, 8, [.nilFunc]⟩
theorem rowOk262 : RowOk Try.prog 262 row262 := rowOk_mk ⟨_, Try.underlying262, rfl⟩ (.nilFunc) (by kernel_rfl) rfl (fun h => by cases h) rfl rfl (fun _ => rfl) (fun _ => rfl)
def row263 : Row := ⟨.other, 1, 8, [.nilFunc]⟩
theorem rowOk263 : RowOk Try.prog 263 row263 := rowOk_mk ⟨_, Try.underlying263, rfl⟩ (.nilFunc) (by kernel_rfl) rfl (fun h => by cases h) rfl rfl (fun _ => rfl) (fun _ => rfl)
def row264 : Row := ⟨.other, 1, 8, [.nilFunc]⟩
theorem rowOk264 : RowOk Try.prog 264 row264 := rowOk_mk ⟨_, Try.underlying264, rfl⟩ (.nilFunc) (by kernel_rfl) rfl (fun h => by cases h) rfl rfl (fun _ => rfl) (fun _ => rfl)
def row265 : Row := ⟨.other, 1, 8, [.nilFunc]⟩
theorem rowOk265 : RowOk Try.prog 265 row265 := rowOk_mk ⟨_, Try.underlying265, rfl⟩ (.nilFunc) (by kernel_rfl) rfl (fun h => by cases h) rfl rfl (fun _ => rfl) (fun _ => rfl)
def row266 : Row := ⟨.other, 1, 8, [.nilFunc]⟩
theorem rowOk266 : RowOk Try.prog 266 row266 := rowOk_mk ⟨_, Try.underlying266, rfl⟩ (.nilFunc) (by kernel_rfl) rfl (fun h => by cases h) rfl rfl (fun _ => rfl) (fun _ => rfl)
def row267 : Row := ⟨.other, 1, 8, [.nilFunc]⟩
theorem rowOk267 : RowOk Try.prog 267 row267 := rowOk_mk ⟨_, Try.underlying267, rfl⟩ (.nilFunc) (by kernel_rfl) rfl (fun h => by cases h) rfl rfl (fun _ => rfl) (fun _ => rfl)
def row268 : Row := ⟨.other, 1, 8, [.nilFunc]⟩
theorem rowOk268 : RowOk Try.prog 268 row268 := rowOk_mk ⟨_, Try.underlying268, rfl⟩ (.nilFunc) (by kernel_rfl) rfl (fun h => by cases h) rfl rfl (fun _ => rfl) (fun _ => rfl)
def row269 : Row := ⟨.other, 1, 8, [.nilFunc]⟩
theorem rowOk269 : RowOk Try.prog 269 row269 := rowOk_mk ⟨_, Try.underlying269, rfl⟩ (.nilFunc) (by kernel_rfl) rfl (fun h => by cases h) rfl rfl (fun _ => rfl) (fun _ => rfl)
def row270 : Row := ⟨.other, 1, 8, [.nilFunc]⟩
theorem rowOk270 : RowOk Try.prog 270 row270 := rowOk_mk ⟨_, Try.underlying270, rfl⟩ (.nilFunc) (by kernel_rfl) rfl (fun h => by cases h) rfl rfl (fun _ => rfl) (fun _ => rfl)
def row271 : Row := ⟨.other, 1, 8, [.pointer none]⟩
theorem rowOk271 : RowOk Try.prog 271 row271 := rowOk_mk ⟨_, Try.underlying271, rfl⟩ (.pointer none) (by kernel_rfl) rfl (fun h => by cases h) rfl rfl (fun _ => rfl) (fun _ => rfl)
def row273 : Row := ⟨.other, 1, 8, [.nilFunc]⟩
theorem rowOk273 : RowOk Try.prog 273 row273 := rowOk_mk ⟨_, Try.underlying273, rfl⟩ (.nilFunc) (by kernel_rfl) rfl (fun h => by cases h) rfl rfl (fun _ => rfl) (fun _ => rfl)
def row274 : Row := ⟨.other, 1, 8, [.nilFunc]⟩
theorem rowOk274 : RowOk Try.prog 274 row274 := rowOk_mk ⟨_, Try.underlying274, rfl⟩ (.nilFunc) (by kernel_rfl) rfl (fun h => by cases h) rfl rfl (fun _ => rfl) (fun _ => rfl)
def row275 : Row := ⟨.other, 1, 8, [.nilFunc]⟩
theorem rowOk275 : RowOk Try.prog 275 row275 := rowOk_mk ⟨_, Try.underlying275, rfl⟩ (.nilFunc) (by kernel_rfl) rfl (fun h => by cases h) rfl rfl (fun _ => rfl) (fun _ => rfl)
def row276 : Row := ⟨.other, 1, 8, [.nilFunc]⟩
theorem rowOk276 : RowOk Try.prog 276 row276 := rowOk_mk ⟨_, Try.underlying276, rfl⟩ (.nilFunc) (by kernel_rfl) rfl (fun h => by cases h) rfl rfl (fun _ => rfl) (fun _ => rfl)
def row277 : Row := ⟨.other, 1, 8, [.nilFunc]⟩
theorem rowOk277 : RowOk Try.prog 277 row277 := rowOk_mk ⟨_, Try.underlying277, rfl⟩ (.nilFunc) (by kernel_rfl) rfl (fun h => by cases h) rfl rfl (fun _ => rfl) (fun _ => rfl)
def row278 : Row := ⟨.struct [(0, 17), (1, 17), (2, 17), (3, 9)], 4, 40, [.pointer none, .pointer none, .pointer none, .string ⟨#[]⟩]⟩
theorem rowOk278 : RowOk Try.prog 278 row278 := rowOk_mk ⟨_, Try.underlying278, rfl⟩ (.agg #[.pointer none, .pointer none, .pointer none, .string ⟨#[]⟩]) (by kernel_rfl) rfl (fun _ => rfl) rfl rfl (fun h => by cases h) (fun h => by cases h)
def row279 : Row := ⟨.struct [(0, 17), (1, 17), (2, 17), (3, 9)], 4, 40, [.pointer none, .pointer none, .pointer none, .string ⟨#[]⟩]⟩
theorem rowOk279 : RowOk Try.prog 279 row279 := rowOk_mk ⟨_, Try.underlying279, rfl⟩ (.agg #[.pointer none, .pointer none, .pointer none, .string ⟨#[]⟩]) (by kernel_rfl) rfl (fun _ => rfl) rfl rfl (fun h => by cases h) (fun h => by cases h)
def row283 : Row := ⟨.other, 1, 8, [.nilFunc]⟩
theorem rowOk283 : RowOk Try.prog 283 row283 := rowOk_mk ⟨_, Try.underlying283, rfl⟩ (.nilFunc) (by kernel_rfl) rfl (fun h => by cases h) rfl rfl (fun _ => rfl) (fun _ => rfl)
def row284 : Row := ⟨.int .u8, 1, 1, [.int .u8 0]⟩
theorem rowOk284 : RowOk Try.prog 284 row284 := rowOk_mk Try.underlying284 (.int .u8 0) (by kernel_rfl) rfl (fun h => by cases h) rfl rfl (fun _ => rfl) (fun _ => rfl)
def row285 : Row := ⟨.int .u8, 1, 1, [.int .u8 0]⟩
theorem rowOk285 : RowOk Try.prog 285 row285 := rowOk_mk Try.underlying285 (.int .u8 0) (by kernel_rfl) rfl (fun h => by cases h) rfl rfl (fun _ => rfl) (fun _ => rfl)
def row286 : Row := ⟨.other, 1, 8, [.nilFunc]⟩
theorem rowOk286 : RowOk Try.prog 286 row286 := rowOk_mk ⟨_, Try.underlying286, rfl⟩ (.nilFunc) (by kernel_rfl) rfl (fun h => by cases h) rfl rfl (fun _ => rfl) (fun _ => rfl)
def row287 : Row := ⟨.other, 1, 8, [.pointer none]⟩
theorem rowOk287 : RowOk Try.prog 287 row287 := rowOk_mk ⟨_, Try.underlying287, rfl⟩ (.pointer none) (by kernel_rfl) rfl (fun h => by cases h) rfl rfl (fun _ => rfl) (fun _ => rfl)
def row288 : Row := ⟨.int .i32, 1, 4, [.int .i32 0]⟩
theorem rowOk288 : RowOk Try.prog 288 row288 := rowOk_mk Try.underlying288 (.int .i32 0) (by kernel_rfl) rfl (fun h => by cases h) rfl rfl (fun _ => rfl) (fun _ => rfl)
def row289 : Row := ⟨.int .i32, 1, 4, [.int .i32 0]⟩
theorem rowOk289 : RowOk Try.prog 289 row289 := rowOk_mk Try.underlying289 (.int .i32 0) (by kernel_rfl) rfl (fun h => by cases h) rfl rfl (fun _ => rfl) (fun _ => rfl)
def row290 : Row := ⟨.struct [(0, 12), (1, 12), (2, 247), (3, 284), (4, 5), (5, 5), (6, 285), (7, 286), (8, 287), (9, 288), (10, 289)], 11, 48, [.int .u64 0, .int .u64 0, .int .u32 0, .int .u8 0, .int .u8 0, .int .u8 0, .int .u8 0, .nilFunc, .pointer none, .int .i32 0, .int .i32 0]⟩
theorem rowOk290 : RowOk Try.prog 290 row290 := rowOk_mk ⟨_, Try.underlying290, rfl⟩ (.agg #[.int .u64 0, .int .u64 0, .int .u32 0, .int .u8 0, .int .u8 0, .int .u8 0, .int .u8 0, .nilFunc, .pointer none, .int .i32 0, .int .i32 0]) (by kernel_rfl) rfl (fun _ => rfl) rfl rfl (fun h => by cases h) (fun h => by cases h)
def row291 : Row := ⟨.struct [(0, 12), (1, 12), (2, 247), (3, 284), (4, 5), (5, 5), (6, 285), (7, 286), (8, 287), (9, 288), (10, 289)], 11, 48, [.int .u64 0, .int .u64 0, .int .u32 0, .int .u8 0, .int .u8 0, .int .u8 0, .int .u8 0, .nilFunc, .pointer none, .int .i32 0, .int .i32 0]⟩
theorem rowOk291 : RowOk Try.prog 291 row291 := rowOk_mk ⟨_, Try.underlying291, rfl⟩ (.agg #[.int .u64 0, .int .u64 0, .int .u32 0, .int .u8 0, .int .u8 0, .int .u8 0, .int .u8 0, .nilFunc, .pointer none, .int .i32 0, .int .i32 0]) (by kernel_rfl) rfl (fun _ => rfl) rfl rfl (fun h => by cases h) (fun h => by cases h)
def AllOk : List (Nat × Row) → Prop
  | [] => True
  | p :: l => RowOk Try.prog p.1 p.2 ∧ AllOk l
theorem allOk_mem : ∀ {l : List (Nat × Row)}, AllOk l → ∀ p, p ∈ l → RowOk Try.prog p.1 p.2
  | [], _, _, h => by cases h
  | q :: l, k, p, h => (List.mem_cons.1 h).elim (fun e => e ▸ k.1) fun h => allOk_mem k.2 p h
theorem allOk_app : ∀ {l l' : List (Nat × Row)}, AllOk l → AllOk l' → AllOk (l ++ l')
  | [], _, _, h => h
  | _ :: _, _, h, k => ⟨h.1, allOk_app h.2 k⟩
def tab0 : List (Nat × Row) := [(1, row1), (2, row2), (3, row3), (4, row4), (5, row5), (6, row6), (7, row7), (8, row8), (9, row9), (10, row10), (11, row11), (12, row12), (13, row13), (14, row14), (15, row15), (16, row16), (17, row17), (18, row18), (19, row19), (20, row20)]
theorem tabOk0 : AllOk tab0 := ⟨rowOk1, rowOk2, rowOk3, rowOk4, rowOk5, rowOk6, rowOk7, rowOk8, rowOk9, rowOk10, rowOk11, rowOk12, rowOk13, rowOk14, rowOk15, rowOk16, rowOk17, rowOk18, rowOk19, rowOk20, trivial⟩
def tab1 : List (Nat × Row) := [(21, row21), (22, row22), (23, row23), (24, row24), (25, row25), (26, row26), (27, row27), (28, row28), (29, row29), (30, row30), (31, row31), (32, row32), (33, row33), (34, row34), (35, row35), (36, row36), (37, row37), (38, row38), (39, row39), (40, row40)]
theorem tabOk1 : AllOk tab1 := ⟨rowOk21, rowOk22, rowOk23, rowOk24, rowOk25, rowOk26, rowOk27, rowOk28, rowOk29, rowOk30, rowOk31, rowOk32, rowOk33, rowOk34, rowOk35, rowOk36, rowOk37, rowOk38, rowOk39, rowOk40, trivial⟩
def tab2 : List (Nat × Row) := [(41, row41), (42, row42), (43, row43), (44, row44), (45, row45), (46, row46), (47, row47), (48, row48), (49, row49), (50, row50), (51, row51), (53, row53), (54, row54), (55, row55), (56, row56), (57, row57), (58, row58), (59, row59), (60, row60), (61, row61)]
theorem tabOk2 : AllOk tab2 := ⟨rowOk41, rowOk42, rowOk43, rowOk44, rowOk45, rowOk46, rowOk47, rowOk48, rowOk49, rowOk50, rowOk51, rowOk53, rowOk54, rowOk55, rowOk56, rowOk57, rowOk58, rowOk59, rowOk60, rowOk61, trivial⟩
def tab3 : List (Nat × Row) := [(62, row62), (63, row63), (64, row64), (65, row65), (66, row66), (67, row67), (68, row68), (69, row69), (70, row70), (71, row71), (72, row72), (73, row73), (74, row74), (75, row75), (76, row76), (77, row77), (78, row78), (79, row79), (80, row80), (81, row81)]
theorem tabOk3 : AllOk tab3 := ⟨rowOk62, rowOk63, rowOk64, rowOk65, rowOk66, rowOk67, rowOk68, rowOk69, rowOk70, rowOk71, rowOk72, rowOk73, rowOk74, rowOk75, rowOk76, rowOk77, rowOk78, rowOk79, rowOk80, rowOk81, trivial⟩
def tab4 : List (Nat × Row) := [(82, row82), (83, row83), (84, row84), (85, row85), (86, row86), (87, row87), (88, row88), (89, row89), (90, row90), (91, row91), (92, row92), (93, row93), (94, row94), (95, row95), (96, row96), (97, row97), (98, row98), (99, row99), (100, row100), (101, row101)]
theorem tabOk4 : AllOk tab4 := ⟨rowOk82, rowOk83, rowOk84, rowOk85, rowOk86, rowOk87, rowOk88, rowOk89, rowOk90, rowOk91, rowOk92, rowOk93, rowOk94, rowOk95, rowOk96, rowOk97, rowOk98, rowOk99, rowOk100, rowOk101, trivial⟩
def tab5 : List (Nat × Row) := [(102, row102), (103, row103), (104, row104), (105, row105), (106, row106), (107, row107), (108, row108), (109, row109), (110, row110), (111, row111), (112, row112), (113, row113), (114, row114), (115, row115), (116, row116), (117, row117), (118, row118), (119, row119), (120, row120), (121, row121)]
theorem tabOk5 : AllOk tab5 := ⟨rowOk102, rowOk103, rowOk104, rowOk105, rowOk106, rowOk107, rowOk108, rowOk109, rowOk110, rowOk111, rowOk112, rowOk113, rowOk114, rowOk115, rowOk116, rowOk117, rowOk118, rowOk119, rowOk120, rowOk121, trivial⟩
def tab6 : List (Nat × Row) := [(122, row122), (123, row123), (124, row124), (125, row125), (126, row126), (127, row127), (128, row128), (129, row129), (130, row130), (131, row131), (132, row132), (133, row133), (134, row134), (135, row135), (136, row136), (137, row137), (138, row138), (139, row139), (140, row140), (141, row141)]
theorem tabOk6 : AllOk tab6 := ⟨rowOk122, rowOk123, rowOk124, rowOk125, rowOk126, rowOk127, rowOk128, rowOk129, rowOk130, rowOk131, rowOk132, rowOk133, rowOk134, rowOk135, rowOk136, rowOk137, rowOk138, rowOk139, rowOk140, rowOk141, trivial⟩
def tab7 : List (Nat × Row) := [(142, row142), (143, row143), (144, row144), (145, row145), (147, row147), (148, row148), (149, row149), (150, row150), (152, row152), (153, row153), (155, row155), (156, row156), (157, row157), (158, row158), (159, row159), (160, row160), (161, row161), (162, row162), (163, row163), (164, row164)]
theorem tabOk7 : AllOk tab7 := ⟨rowOk142, rowOk143, rowOk144, rowOk145, rowOk147, rowOk148, rowOk149, rowOk150, rowOk152, rowOk153, rowOk155, rowOk156, rowOk157, rowOk158, rowOk159, rowOk160, rowOk161, rowOk162, rowOk163, rowOk164, trivial⟩
def tab8 : List (Nat × Row) := [(165, row165), (166, row166), (167, row167), (168, row168), (169, row169), (170, row170), (171, row171), (172, row172), (173, row173), (174, row174), (175, row175), (176, row176), (177, row177), (178, row178), (179, row179), (180, row180), (181, row181), (182, row182), (183, row183), (184, row184)]
theorem tabOk8 : AllOk tab8 := ⟨rowOk165, rowOk166, rowOk167, rowOk168, rowOk169, rowOk170, rowOk171, rowOk172, rowOk173, rowOk174, rowOk175, rowOk176, rowOk177, rowOk178, rowOk179, rowOk180, rowOk181, rowOk182, rowOk183, rowOk184, trivial⟩
def tab9 : List (Nat × Row) := [(185, row185), (186, row186), (187, row187), (188, row188), (189, row189), (190, row190), (191, row191), (192, row192), (193, row193), (195, row195), (196, row196), (197, row197), (198, row198), (199, row199), (201, row201), (202, row202), (203, row203), (204, row204), (205, row205), (206, row206)]
theorem tabOk9 : AllOk tab9 := ⟨rowOk185, rowOk186, rowOk187, rowOk188, rowOk189, rowOk190, rowOk191, rowOk192, rowOk193, rowOk195, rowOk196, rowOk197, rowOk198, rowOk199, rowOk201, rowOk202, rowOk203, rowOk204, rowOk205, rowOk206, trivial⟩
def tab10 : List (Nat × Row) := [(208, row208), (209, row209), (210, row210), (211, row211), (212, row212), (213, row213), (214, row214), (215, row215), (216, row216), (217, row217), (218, row218), (219, row219), (220, row220), (221, row221), (222, row222), (223, row223), (224, row224), (225, row225), (226, row226), (227, row227)]
theorem tabOk10 : AllOk tab10 := ⟨rowOk208, rowOk209, rowOk210, rowOk211, rowOk212, rowOk213, rowOk214, rowOk215, rowOk216, rowOk217, rowOk218, rowOk219, rowOk220, rowOk221, rowOk222, rowOk223, rowOk224, rowOk225, rowOk226, rowOk227, trivial⟩
def tab11 : List (Nat × Row) := [(228, row228), (229, row229), (230, row230), (231, row231), (232, row232), (233, row233), (234, row234), (235, row235), (236, row236), (237, row237), (238, row238), (240, row240), (241, row241), (242, row242), (243, row243), (245, row245), (246, row246), (247, row247), (248, row248), (249, row249)]
theorem tabOk11 : AllOk tab11 := ⟨rowOk228, rowOk229, rowOk230, rowOk231, rowOk232, rowOk233, rowOk234, rowOk235, rowOk236, rowOk237, rowOk238, rowOk240, rowOk241, rowOk242, rowOk243, rowOk245, rowOk246, rowOk247, rowOk248, rowOk249, trivial⟩
def tab12 : List (Nat × Row) := [(250, row250), (251, row251), (252, row252), (253, row253), (254, row254), (255, row255), (256, row256), (257, row257), (258, row258), (259, row259), (260, row260), (261, row261), (262, row262), (263, row263), (264, row264), (265, row265), (266, row266), (267, row267), (268, row268), (269, row269)]
theorem tabOk12 : AllOk tab12 := ⟨rowOk250, rowOk251, rowOk252, rowOk253, rowOk254, rowOk255, rowOk256, rowOk257, rowOk258, rowOk259, rowOk260, rowOk261, rowOk262, rowOk263, rowOk264, rowOk265, rowOk266, rowOk267, rowOk268, rowOk269, trivial⟩
def tab13 : List (Nat × Row) := [(270, row270), (271, row271), (273, row273), (274, row274), (275, row275), (276, row276), (277, row277), (278, row278), (279, row279), (283, row283), (284, row284), (285, row285), (286, row286), (287, row287), (288, row288), (289, row289), (290, row290), (291, row291)]
theorem tabOk13 : AllOk tab13 := ⟨rowOk270, rowOk271, rowOk273, rowOk274, rowOk275, rowOk276, rowOk277, rowOk278, rowOk279, rowOk283, rowOk284, rowOk285, rowOk286, rowOk287, rowOk288, rowOk289, rowOk290, rowOk291, trivial⟩
def tab : List (Nat × Row) := tab0 ++ (tab1 ++ (tab2 ++ (tab3 ++ (tab4 ++ (tab5 ++ (tab6 ++ (tab7 ++ (tab8 ++ (tab9 ++ (tab10 ++ (tab11 ++ (tab12 ++ (tab13)))))))))))))
def Γ (t : Nat) : Option Row := look t tab
theorem tabOk : TabOk Try.prog Γ := fun t r h => allOk_mem (show AllOk tab from (allOk_app tabOk0 (allOk_app tabOk1 (allOk_app tabOk2 (allOk_app tabOk3 (allOk_app tabOk4 (allOk_app tabOk5 (allOk_app tabOk6 (allOk_app tabOk7 (allOk_app tabOk8 (allOk_app tabOk9 (allOk_app tabOk10 (allOk_app tabOk11 (allOk_app tabOk12 tabOk13)))))))))))))) _ (look_mem h)
@[go_sem] theorem Γ1 : Γ 1 = some ⟨.other, 1, 8, [.nilFunc]⟩ := by kernel_rfl
@[go_sem] theorem Γ2 : Γ 2 = some ⟨.int .i64, 1, 8, [.int .i64 0]⟩ := by kernel_rfl
@[go_sem] theorem Γ3 : Γ 3 = some ⟨.int .i64, 1, 8, [.int .i64 0]⟩ := by kernel_rfl
@[go_sem] theorem Γ4 : Γ 4 = some ⟨.bool, 1, 1, [.bool false]⟩ := by kernel_rfl
@[go_sem] theorem Γ5 : Γ 5 = some ⟨.int .u8, 1, 1, [.int .u8 0]⟩ := by kernel_rfl
@[go_sem] theorem Γ6 : Γ 6 = some ⟨.int .u8, 1, 1, [.int .u8 0]⟩ := by kernel_rfl
@[go_sem] theorem Γ7 : Γ 7 = some ⟨.struct [(0, 2), (1, 3), (2, 4), (3, 6)], 4, 24, [.int .i64 0, .int .i64 0, .bool false, .int .u8 0]⟩ := by kernel_rfl
@[go_sem] theorem Γ8 : Γ 8 = some ⟨.struct [(0, 2), (1, 3), (2, 4), (3, 6)], 4, 24, [.int .i64 0, .int .i64 0, .bool false, .int .u8 0]⟩ := by kernel_rfl
@[go_sem] theorem Γ9 : Γ 9 = some ⟨.str, 1, 16, [.string ⟨#[]⟩]⟩ := by kernel_rfl
@[go_sem] theorem Γ10 : Γ 10 = some ⟨.str, 1, 16, [.string ⟨#[]⟩]⟩ := by kernel_rfl
@[go_sem] theorem Γ11 : Γ 11 = some ⟨.str, 1, 16, [.string ⟨#[]⟩]⟩ := by kernel_rfl
@[go_sem] theorem Γ12 : Γ 12 = some ⟨.int .u64, 1, 8, [.int .u64 0]⟩ := by kernel_rfl
@[go_sem] theorem Γ13 : Γ 13 = some ⟨.struct [(0, 9), (1, 12)], 2, 24, [.string ⟨#[]⟩, .int .u64 0]⟩ := by kernel_rfl
@[go_sem] theorem Γ14 : Γ 14 = some ⟨.struct [(0, 9), (1, 12)], 2, 24, [.string ⟨#[]⟩, .int .u64 0]⟩ := by kernel_rfl
@[go_sem] theorem Γ15 : Γ 15 = some ⟨.other, 1, 8, [.pointer none]⟩ := by kernel_rfl
@[go_sem] theorem Γ16 : Γ 16 = some ⟨.other, 1, 8, [.pointer none]⟩ := by kernel_rfl
@[go_sem] theorem Γ17 : Γ 17 = some ⟨.other, 1, 8, [.pointer none]⟩ := by kernel_rfl
@[go_sem] theorem Γ18 : Γ 18 = some ⟨.struct [(0, 17)], 1, 8, [.pointer none]⟩ := by kernel_rfl
@[go_sem] theorem Γ19 : Γ 19 = some ⟨.struct [(0, 17)], 1, 8, [.pointer none]⟩ := by kernel_rfl
@[go_sem] theorem Γ20 : Γ 20 = some ⟨.other, 1, 16, [.nilIface]⟩ := by kernel_rfl
@[go_sem] theorem Γ21 : Γ 21 = some ⟨.int .i32, 1, 4, [.int .i32 0]⟩ := by kernel_rfl
@[go_sem] theorem Γ22 : Γ 22 = some ⟨.slice 183, 1, 24, [.slice none 0 0]⟩ := by kernel_rfl
@[go_sem] theorem Γ23 : Γ 23 = some ⟨.slice 3, 1, 24, [.slice none 0 0]⟩ := by kernel_rfl
@[go_sem] theorem Γ24 : Γ 24 = some ⟨.struct [(0, 3), (1, 22), (2, 23)], 3, 56, [.int .i64 0, .slice none 0 0, .slice none 0 0]⟩ := by kernel_rfl
@[go_sem] theorem Γ25 : Γ 25 = some ⟨.struct [(0, 3), (1, 22), (2, 23)], 3, 56, [.int .i64 0, .slice none 0 0, .slice none 0 0]⟩ := by kernel_rfl
@[go_sem] theorem Γ26 : Γ 26 = some ⟨.slice 5, 1, 24, [.slice none 0 0]⟩ := by kernel_rfl
@[go_sem] theorem Γ27 : Γ 27 = some ⟨.other, 1, 8, [.nilFunc]⟩ := by kernel_rfl
@[go_sem] theorem Γ28 : Γ 28 = some ⟨.slice 44, 1, 24, [.slice none 0 0]⟩ := by kernel_rfl
@[go_sem] theorem Γ29 : Γ 29 = some ⟨.struct [(0, 3), (1, 28), (2, 23)], 3, 56, [.int .i64 0, .slice none 0 0, .slice none 0 0]⟩ := by kernel_rfl
@[go_sem] theorem Γ30 : Γ 30 = some ⟨.struct [(0, 3), (1, 28), (2, 23)], 3, 56, [.int .i64 0, .slice none 0 0, .slice none 0 0]⟩ := by kernel_rfl
@[go_sem] theorem Γ31 : Γ 31 = some ⟨.struct [(0, 3), (1, 3), (2, 30)], 5, 72, [.int .i64 0, .int .i64 0, .int .i64 0, .slice none 0 0, .slice none 0 0]⟩ := by kernel_rfl
@[go_sem] theorem Γ32 : Γ 32 = some ⟨.struct [(0, 3), (1, 3), (2, 30)], 5, 72, [.int .i64 0, .int .i64 0, .int .i64 0, .slice none 0 0, .slice none 0 0]⟩ := by kernel_rfl
@[go_sem] theorem Γ33 : Γ 33 = some ⟨.other, 1, 8, [.nilFunc]⟩ := by kernel_rfl
@[go_sem] theorem Γ34 : Γ 34 = some ⟨.other, 1, 8, [.nilFunc]⟩ := by kernel_rfl
@[go_sem] theorem Γ35 : Γ 35 = some ⟨.other, 1, 8, [.nilFunc]⟩ := by kernel_rfl
@[go_sem] theorem Γ36 : Γ 36 = some ⟨.other, 1, 8, [.nilFunc]⟩ := by kernel_rfl
@[go_sem] theorem Γ37 : Γ 37 = some ⟨.other, 1, 8, [.nilFunc]⟩ := by kernel_rfl
@[go_sem] theorem Γ38 : Γ 38 = some ⟨.other, 1, 8, [.nilFunc]⟩ := by kernel_rfl
@[go_sem] theorem Γ39 : Γ 39 = some ⟨.other, 1, 8, [.nilFunc]⟩ := by kernel_rfl
@[go_sem] theorem Γ40 : Γ 40 = some ⟨.other, 1, 8, [.nilFunc]⟩ := by kernel_rfl
@[go_sem] theorem Γ41 : Γ 41 = some ⟨.other, 1, 8, [.nilFunc]⟩ := by kernel_rfl
@[go_sem] theorem Γ42 : Γ 42 = some ⟨.other, 1, 8, [.nilFunc]⟩ := by kernel_rfl
@[go_sem] theorem Γ43 : Γ 43 = some ⟨.struct [(0, 3), (1, 3), (2, 3), (3, 26)], 4, 48, [.int .i64 0, .int .i64 0, .int .i64 0, .slice none 0 0]⟩ := by kernel_rfl
@[go_sem] theorem Γ44 : Γ 44 = some ⟨.struct [(0, 3), (1, 3), (2, 3), (3, 26)], 4, 48, [.int .i64 0, .int .i64 0, .int .i64 0, .slice none 0 0]⟩ := by kernel_rfl
@[go_sem] theorem Γ45 : Γ 45 = some ⟨.struct [(0, 3), (1, 3), (2, 44), (6, 30)], 9, 120, [.int .i64 0, .int .i64 0, .int .i64 0, .int .i64 0, .int .i64 0, .slice none 0 0, .int .i64 0, .slice none 0 0, .slice none 0 0]⟩ := by kernel_rfl
@[go_sem] theorem Γ46 : Γ 46 = some ⟨.struct [(0, 3), (1, 3), (2, 44), (6, 30)], 9, 120, [.int .i64 0, .int .i64 0, .int .i64 0, .int .i64 0, .int .i64 0, .slice none 0 0, .int .i64 0, .slice none 0 0, .slice none 0 0]⟩ := by kernel_rfl
@[go_sem] theorem Γ47 : Γ 47 = some ⟨.other, 1, 8, [.nilFunc]⟩ := by kernel_rfl
@[go_sem] theorem Γ48 : Γ 48 = some ⟨.other, 1, 8, [.nilFunc]⟩ := by kernel_rfl
@[go_sem] theorem Γ49 : Γ 49 = some ⟨.other, 1, 8, [.nilFunc]⟩ := by kernel_rfl
@[go_sem] theorem Γ50 : Γ 50 = some ⟨.other, 1, 8, [.nilFunc]⟩ := by kernel_rfl
@[go_sem] theorem Γ51 : Γ 51 = some ⟨.other, 1, 8, [.nilFunc]⟩ := by kernel_rfl
@[go_sem] theorem Γ53 : Γ 53 = some ⟨.other, 1, 8, [.nilFunc]⟩ := by kernel_rfl
@[go_sem] theorem Γ54 : Γ 54 = some ⟨.other, 1, 8, [.nilFunc]⟩ := by kernel_rfl
@[go_sem] theorem Γ55 : Γ 55 = some ⟨.other, 1, 8, [.nilFunc]⟩ := by kernel_rfl
@[go_sem] theorem Γ56 : Γ 56 = some ⟨.slice 138, 1, 24, [.slice none 0 0]⟩ := by kernel_rfl
@[go_sem] theorem Γ57 : Γ 57 = some ⟨.slice 90, 1, 24, [.slice none 0 0]⟩ := by kernel_rfl
@[go_sem] theorem Γ58 : Γ 58 = some ⟨.other, 1, 8, [.nilFunc]⟩ := by kernel_rfl
@[go_sem] theorem Γ59 : Γ 59 = some ⟨.other, 1, 8, [.nilFunc]⟩ := by kernel_rfl
@[go_sem] theorem Γ60 : Γ 60 = some ⟨.struct [(0, 3), (1, 3)], 2, 16, [.int .i64 0, .int .i64 0]⟩ := by kernel_rfl
@[go_sem] theorem Γ61 : Γ 61 = some ⟨.struct [(0, 3), (1, 3)], 2, 16, [.int .i64 0, .int .i64 0]⟩ := by kernel_rfl
@[go_sem] theorem Γ62 : Γ 62 = some ⟨.other, 1, 8, [.nilFunc]⟩ := by kernel_rfl
@[go_sem] theorem Γ63 : Γ 63 = some ⟨.slice 143, 1, 24, [.slice none 0 0]⟩ := by kernel_rfl
@[go_sem] theorem Γ64 : Γ 64 = some ⟨.other, 1, 8, [.nilFunc]⟩ := by kernel_rfl
@[go_sem] theorem Γ65 : Γ 65 = some ⟨.slice 97, 1, 24, [.slice none 0 0]⟩ := by kernel_rfl
@[go_sem] theorem Γ66 : Γ 66 = some ⟨.other, 1, 8, [.nilFunc]⟩ := by kernel_rfl
@[go_sem] theorem Γ67 : Γ 67 = some ⟨.other, 1, 8, [.nilFunc]⟩ := by kernel_rfl
@[go_sem] theorem Γ68 : Γ 68 = some ⟨.other, 1, 8, [.nilFunc]⟩ := by kernel_rfl
@[go_sem] theorem Γ69 : Γ 69 = some ⟨.other, 1, 8, [.nilFunc]⟩ := by kernel_rfl
@[go_sem] theorem Γ70 : Γ 70 = some ⟨.other, 1, 8, [.nilFunc]⟩ := by kernel_rfl
@[go_sem] theorem Γ71 : Γ 71 = some ⟨.slice 163, 1, 24, [.slice none 0 0]⟩ := by kernel_rfl
@[go_sem] theorem Γ72 : Γ 72 = some ⟨.other, 1, 8, [.nilFunc]⟩ := by kernel_rfl
@[go_sem] theorem Γ73 : Γ 73 = some ⟨.slice 206, 1, 24, [.slice none 0 0]⟩ := by kernel_rfl
@[go_sem] theorem Γ74 : Γ 74 = some ⟨.slice 192, 1, 24, [.slice none 0 0]⟩ := by kernel_rfl
@[go_sem] theorem Γ75 : Γ 75 = some ⟨.struct [(0, 73), (1, 74)], 2, 48, [.slice none 0 0, .slice none 0 0]⟩ := by kernel_rfl
@[go_sem] theorem Γ76 : Γ 76 = some ⟨.struct [(0, 73), (1, 74)], 2, 48, [.slice none 0 0, .slice none 0 0]⟩ := by kernel_rfl
@[go_sem] theorem Γ77 : Γ 77 = some ⟨.other, 1, 8, [.nilFunc]⟩ := by kernel_rfl
@[go_sem] theorem Γ78 : Γ 78 = some ⟨.slice 166, 1, 24, [.slice none 0 0]⟩ := by kernel_rfl
@[go_sem] theorem Γ79 : Γ 79 = some ⟨.other, 1, 8, [.nilFunc]⟩ := by kernel_rfl
@[go_sem] theorem Γ80 : Γ 80 = some ⟨.other, 1, 8, [.nilFunc]⟩ := by kernel_rfl
@[go_sem] theorem Γ81 : Γ 81 = some ⟨.other, 1, 8, [.nilFunc]⟩ := by kernel_rfl
@[go_sem] theorem Γ82 : Γ 82 = some ⟨.other, 1, 8, [.nilFunc]⟩ := by kernel_rfl
@[go_sem] theorem Γ83 : Γ 83 = some ⟨.other, 1, 8, [.nilFunc]⟩ := by kernel_rfl
@[go_sem] theorem Γ84 : Γ 84 = some ⟨.other, 1, 8, [.nilFunc]⟩ := by kernel_rfl
@[go_sem] theorem Γ85 : Γ 85 = some ⟨.slice 219, 1, 24, [.slice none 0 0]⟩ := by kernel_rfl
@[go_sem] theorem Γ86 : Γ 86 = some ⟨.slice 221, 1, 24, [.slice none 0 0]⟩ := by kernel_rfl
@[go_sem] theorem Γ87 : Γ 87 = some ⟨.struct [(0, 85), (1, 86)], 2, 48, [.slice none 0 0, .slice none 0 0]⟩ := by kernel_rfl
@[go_sem] theorem Γ88 : Γ 88 = some ⟨.struct [(0, 85), (1, 86)], 2, 48, [.slice none 0 0, .slice none 0 0]⟩ := by kernel_rfl
@[go_sem] theorem Γ89 : Γ 89 = some ⟨.struct [(0, 3), (1, 3), (2, 3), (3, 9), (4, 9), (5, 9)], 6, 72, [.int .i64 0, .int .i64 0, .int .i64 0, .string ⟨#[]⟩, .string ⟨#[]⟩, .string ⟨#[]⟩]⟩ := by kernel_rfl
@[go_sem] theorem Γ90 : Γ 90 = some ⟨.struct [(0, 3), (1, 3), (2, 3), (3, 9), (4, 9), (5, 9)], 6, 72, [.int .i64 0, .int .i64 0, .int .i64 0, .string ⟨#[]⟩, .string ⟨#[]⟩, .string ⟨#[]⟩]⟩ := by kernel_rfl
@[go_sem] theorem Γ91 : Γ 91 = some ⟨.other, 1, 8, [.nilFunc]⟩ := by kernel_rfl
@[go_sem] theorem Γ92 : Γ 92 = some ⟨.other, 1, 8, [.nilFunc]⟩ := by kernel_rfl
@[go_sem] theorem Γ93 : Γ 93 = some ⟨.struct [(0, 3), (1, 3), (2, 9), (3, 76)], 5, 80, [.int .i64 0, .int .i64 0, .string ⟨#[]⟩, .slice none 0 0, .slice none 0 0]⟩ := by kernel_rfl
@[go_sem] theorem Γ94 : Γ 94 = some ⟨.struct [(0, 3), (1, 3), (2, 9), (3, 76)], 5, 80, [.int .i64 0, .int .i64 0, .string ⟨#[]⟩, .slice none 0 0, .slice none 0 0]⟩ := by kernel_rfl
@[go_sem] theorem Γ95 : Γ 95 = some ⟨.other, 1, 8, [.nilFunc]⟩ := by kernel_rfl
@[go_sem] theorem Γ96 : Γ 96 = some ⟨.other, 1, 8, [.nilFunc]⟩ := by kernel_rfl
@[go_sem] theorem Γ97 : Γ 97 = some ⟨.struct [(0, 3), (1, 3), (2, 3), (3, 9), (4, 9), (5, 9)], 6, 72, [.int .i64 0, .int .i64 0, .int .i64 0, .string ⟨#[]⟩, .string ⟨#[]⟩, .string ⟨#[]⟩]⟩ := by kernel_rfl
@[go_sem] theorem Γ98 : Γ 98 = some ⟨.other, 1, 8, [.nilFunc]⟩ := by kernel_rfl
@[go_sem] theorem Γ99 : Γ 99 = some ⟨.other, 1, 8, [.nilFunc]⟩ := by kernel_rfl
@[go_sem] theorem Γ100 : Γ 100 = some ⟨.other, 1, 8, [.nilFunc]⟩ := by kernel_rfl
@[go_sem] theorem Γ101 : Γ 101 = some ⟨.other, 1, 8, [.nilFunc]⟩ := by kernel_rfl
@[go_sem] theorem Γ102 : Γ 102 = some ⟨.other, 1, 8, [.nilFunc]⟩ := by kernel_rfl
@[go_sem] theorem Γ103 : Γ 103 = some ⟨.other, 1, 8, [.nilFunc]⟩ := by kernel_rfl
@[go_sem] theorem Γ104 : Γ 104 = some ⟨.other, 1, 8, [.nilFunc]⟩ := by kernel_rfl
@[go_sem] theorem Γ105 : Γ 105 = some ⟨.other, 1, 8, [.nilFunc]⟩ := by kernel_rfl
@[go_sem] theorem Γ106 : Γ 106 = some ⟨.other, 1, 8, [.nilFunc]⟩ := by kernel_rfl
@[go_sem] theorem Γ107 : Γ 107 = some ⟨.other, 1, 8, [.nilFunc]⟩ := by kernel_rfl
@[go_sem] theorem Γ108 : Γ 108 = some ⟨.other, 1, 8, [.nilFunc]⟩ := by kernel_rfl
@[go_sem] theorem Γ109 : Γ 109 = some ⟨.other, 1, 8, [.nilFunc]⟩ := by kernel_rfl
@[go_sem] theorem Γ110 : Γ 110 = some ⟨.other, 1, 8, [.nilFunc]⟩ := by kernel_rfl
@[go_sem] theorem Γ111 : Γ 111 = some ⟨.other, 1, 8, [.nilFunc]⟩ := by kernel_rfl
@[go_sem] theorem Γ112 : Γ 112 = some ⟨.map 3 4, 1, 8, [.map none]⟩ := by kernel_rfl
@[go_sem] theorem Γ113 : Γ 113 = some ⟨.other, 1, 8, [.nilFunc]⟩ := by kernel_rfl
@[go_sem] theorem Γ114 : Γ 114 = some ⟨.other, 1, 8, [.nilFunc]⟩ := by kernel_rfl
@[go_sem] theorem Γ115 : Γ 115 = some ⟨.other, 1, 8, [.nilFunc]⟩ := by kernel_rfl
@[go_sem] theorem Γ116 : Γ 116 = some ⟨.other, 1, 8, [.nilFunc]⟩ := by kernel_rfl
@[go_sem] theorem Γ117 : Γ 117 = some ⟨.other, 1, 8, [.nilFunc]⟩ := by kernel_rfl
@[go_sem] theorem Γ118 : Γ 118 = some ⟨.other, 1, 8, [.nilFunc]⟩ := by kernel_rfl
@[go_sem] theorem Γ119 : Γ 119 = some ⟨.other, 1, 8, [.nilFunc]⟩ := by kernel_rfl
@[go_sem] theorem Γ120 : Γ 120 = some ⟨.other, 1, 8, [.nilFunc]⟩ := by kernel_rfl
@[go_sem] theorem Γ121 : Γ 121 = some ⟨.other, 1, 8, [.nilFunc]⟩ := by kernel_rfl
@[go_sem] theorem Γ122 : Γ 122 = some ⟨.other, 1, 8, [.nilFunc]⟩ := by kernel_rfl
@[go_sem] theorem Γ123 : Γ 123 = some ⟨.other, 1, 8, [.nilFunc]⟩ := by kernel_rfl
@[go_sem] theorem Γ124 : Γ 124 = some ⟨.other, 1, 8, [.nilFunc]⟩ := by kernel_rfl
@[go_sem] theorem Γ125 : Γ 125 = some ⟨.other, 1, 8, [.nilFunc]⟩ := by kernel_rfl
@[go_sem] theorem Γ126 : Γ 126 = some ⟨.other, 1, 8, [.nilFunc]⟩ := by kernel_rfl
@[go_sem] theorem Γ127 : Γ 127 = some ⟨.struct [(0, 26), (1, 3)], 2, 32, [.slice none 0 0, .int .i64 0]⟩ := by kernel_rfl
@[go_sem] theorem Γ128 : Γ 128 = some ⟨.struct [(0, 26), (1, 3)], 2, 32, [.slice none 0 0, .int .i64 0]⟩ := by kernel_rfl
@[go_sem] theorem Γ129 : Γ 129 = some ⟨.other, 1, 8, [.nilFunc]⟩ := by kernel_rfl
@[go_sem] theorem Γ130 : Γ 130 = some ⟨.other, 1, 8, [.pointer none]⟩ := by kernel_rfl
@[go_sem] theorem Γ131 : Γ 131 = some ⟨.other, 1, 8, [.nilFunc]⟩ := by kernel_rfl
@[go_sem] theorem Γ132 : Γ 132 = some ⟨.other, 1, 8, [.nilFunc]⟩ := by kernel_rfl
@[go_sem] theorem Γ133 : Γ 133 = some ⟨.other, 1, 8, [.nilFunc]⟩ := by kernel_rfl
@[go_sem] theorem Γ134 : Γ 134 = some ⟨.other, 1, 8, [.nilFunc]⟩ := by kernel_rfl
@[go_sem] theorem Γ135 : Γ 135 = some ⟨.other, 1, 8, [.nilFunc]⟩ := by kernel_rfl
@[go_sem] theorem Γ136 : Γ 136 = some ⟨.other, 1, 8, [.nilFunc]⟩ := by kernel_rfl
@[go_sem] theorem Γ137 : Γ 137 = some ⟨.struct [(0, 3), (1, 90), (7, 3), (8, 9)], 9, 104, [.int .i64 0, .int .i64 0, .int .i64 0, .int .i64 0, .string ⟨#[]⟩, .string ⟨#[]⟩, .string ⟨#[]⟩, .int .i64 0, .string ⟨#[]⟩]⟩ := by kernel_rfl
@[go_sem] theorem Γ138 : Γ 138 = some ⟨.struct [(0, 3), (1, 90), (7, 3), (8, 9)], 9, 104, [.int .i64 0, .int .i64 0, .int .i64 0, .int .i64 0, .string ⟨#[]⟩, .string ⟨#[]⟩, .string ⟨#[]⟩, .int .i64 0, .string ⟨#[]⟩]⟩ := by kernel_rfl
@[go_sem] theorem Γ139 : Γ 139 = some ⟨.other, 1, 8, [.nilFunc]⟩ := by kernel_rfl
@[go_sem] theorem Γ140 : Γ 140 = some ⟨.other, 1, 8, [.nilFunc]⟩ := by kernel_rfl
@[go_sem] theorem Γ141 : Γ 141 = some ⟨.other, 1, 8, [.nilFunc]⟩ := by kernel_rfl
@[go_sem] theorem Γ142 : Γ 142 = some ⟨.struct [(0, 3), (1, 97), (7, 3), (8, 9)], 9, 104, [.int .i64 0, .int .i64 0, .int .i64 0, .int .i64 0, .string ⟨#[]⟩, .string ⟨#[]⟩, .string ⟨#[]⟩, .int .i64 0, .string ⟨#[]⟩]⟩ := by kernel_rfl
@[go_sem] theorem Γ143 : Γ 143 = some ⟨.struct [(0, 3), (1, 97), (7, 3), (8, 9)], 9, 104, [.int .i64 0, .int .i64 0, .int .i64 0, .int .i64 0, .string ⟨#[]⟩, .string ⟨#[]⟩, .string ⟨#[]⟩, .int .i64 0, .string ⟨#[]⟩]⟩ := by kernel_rfl
@[go_sem] theorem Γ144 : Γ 144 = some ⟨.other, 1, 8, [.nilFunc]⟩ := by kernel_rfl
@[go_sem] theorem Γ145 : Γ 145 = some ⟨.map 97 150, 1, 8, [.map none]⟩ := by kernel_rfl
@[go_sem] theorem Γ147 : Γ 147 = some ⟨.other, 1, 8, [.nilFunc]⟩ := by kernel_rfl
@[go_sem] theorem Γ148 : Γ 148 = some ⟨.map 97 4, 1, 8, [.map none]⟩ := by kernel_rfl
@[go_sem] theorem Γ149 : Γ 149 = some ⟨.struct [(0, 3), (1, 3)], 2, 16, [.int .i64 0, .int .i64 0]⟩ := by kernel_rfl
@[go_sem] theorem Γ150 : Γ 150 = some ⟨.struct [(0, 3), (1, 3)], 2, 16, [.int .i64 0, .int .i64 0]⟩ := by kernel_rfl
@[go_sem] theorem Γ152 : Γ 152 = some ⟨.other, 1, 8, [.pointer none]⟩ := by kernel_rfl
@[go_sem] theorem Γ153 : Γ 153 = some ⟨.other, 1, 8, [.nilFunc]⟩ := by kernel_rfl
@[go_sem] theorem Γ155 : Γ 155 = some ⟨.other, 1, 8, [.nilFunc]⟩ := by kernel_rfl
@[go_sem] theorem Γ156 : Γ 156 = some ⟨.other, 1, 8, [.nilFunc]⟩ := by kernel_rfl
@[go_sem] theorem Γ157 : Γ 157 = some ⟨.other, 1, 8, [.nilFunc]⟩ := by kernel_rfl
@[go_sem] theorem Γ158 : Γ 158 = some ⟨.other, 1, 8, [.nilFunc]⟩ := by kernel_rfl
@[go_sem] theorem Γ159 : Γ 159 = some ⟨.other, 1, 8, [.nilFunc]⟩ := by kernel_rfl
@[go_sem] theorem Γ160 : Γ 160 = some ⟨.other, 1, 8, [.nilFunc]⟩ := by kernel_rfl
@[go_sem] theorem Γ161 : Γ 161 = some ⟨.other, 1, 8, [.nilFunc]⟩ := by kernel_rfl
@[go_sem] theorem Γ162 : Γ 162 = some ⟨.struct [(0, 3), (1, 90)], 7, 80, [.int .i64 0, .int .i64 0, .int .i64 0, .int .i64 0, .string ⟨#[]⟩, .string ⟨#[]⟩, .string ⟨#[]⟩]⟩ := by kernel_rfl
@[go_sem] theorem Γ163 : Γ 163 = some ⟨.struct [(0, 3), (1, 90)], 7, 80, [.int .i64 0, .int .i64 0, .int .i64 0, .int .i64 0, .string ⟨#[]⟩, .string ⟨#[]⟩, .string ⟨#[]⟩]⟩ := by kernel_rfl
@[go_sem] theorem Γ164 : Γ 164 = some ⟨.other, 1, 8, [.nilFunc]⟩ := by kernel_rfl
@[go_sem] theorem Γ165 : Γ 165 = some ⟨.struct [(0, 3), (1, 97)], 7, 80, [.int .i64 0, .int .i64 0, .int .i64 0, .int .i64 0, .string ⟨#[]⟩, .string ⟨#[]⟩, .string ⟨#[]⟩]⟩ := by kernel_rfl
@[go_sem] theorem Γ166 : Γ 166 = some ⟨.struct [(0, 3), (1, 97)], 7, 80, [.int .i64 0, .int .i64 0, .int .i64 0, .int .i64 0, .string ⟨#[]⟩, .string ⟨#[]⟩, .string ⟨#[]⟩]⟩ := by kernel_rfl
@[go_sem] theorem Γ167 : Γ 167 = some ⟨.other, 1, 8, [.nilFunc]⟩ := by kernel_rfl
@[go_sem] theorem Γ168 : Γ 168 = some ⟨.other, 1, 8, [.nilFunc]⟩ := by kernel_rfl
@[go_sem] theorem Γ169 : Γ 169 = some ⟨.other, 1, 8, [.nilFunc]⟩ := by kernel_rfl
@[go_sem] theorem Γ170 : Γ 170 = some ⟨.other, 1, 8, [.nilFunc]⟩ := by kernel_rfl
@[go_sem] theorem Γ171 : Γ 171 = some ⟨.other, 1, 8, [.nilFunc]⟩ := by kernel_rfl
@[go_sem] theorem Γ172 : Γ 172 = some ⟨.other, 1, 8, [.nilFunc]⟩ := by kernel_rfl
@[go_sem] theorem Γ173 : Γ 173 = some ⟨.other, 1, 8, [.nilFunc]⟩ := by kernel_rfl
@[go_sem] theorem Γ174 : Γ 174 = some ⟨.other, 1, 8, [.nilFunc]⟩ := by kernel_rfl
@[go_sem] theorem Γ175 : Γ 175 = some ⟨.other, 1, 8, [.nilFunc]⟩ := by kernel_rfl
@[go_sem] theorem Γ176 : Γ 176 = some ⟨.other, 1, 8, [.nilFunc]⟩ := by kernel_rfl
@[go_sem] theorem Γ177 : Γ 177 = some ⟨.other, 1, 8, [.nilFunc]⟩ := by kernel_rfl
@[go_sem] theorem Γ178 : Γ 178 = some ⟨.other, 1, 8, [.nilFunc]⟩ := by kernel_rfl
@[go_sem] theorem Γ179 : Γ 179 = some ⟨.other, 1, 8, [.nilFunc]⟩ := by kernel_rfl
@[go_sem] theorem Γ180 : Γ 180 = some ⟨.other, 1, 8, [.nilFunc]⟩ := by kernel_rfl
@[go_sem] theorem Γ181 : Γ 181 = some ⟨.other, 1, 8, [.nilFunc]⟩ := by kernel_rfl
@[go_sem] theorem Γ182 : Γ 182 = some ⟨.other, 1, 8, [.nilFunc]⟩ := by kernel_rfl
@[go_sem] theorem Γ183 : Γ 183 = some ⟨.struct [(0, 3), (1, 3), (2, 3), (3, 26)], 4, 48, [.int .i64 0, .int .i64 0, .int .i64 0, .slice none 0 0]⟩ := by kernel_rfl
@[go_sem] theorem Γ184 : Γ 184 = some ⟨.other, 1, 8, [.nilFunc]⟩ := by kernel_rfl
@[go_sem] theorem Γ185 : Γ 185 = some ⟨.other, 1, 8, [.nilFunc]⟩ := by kernel_rfl
@[go_sem] theorem Γ186 : Γ 186 = some ⟨.other, 1, 8, [.nilFunc]⟩ := by kernel_rfl
@[go_sem] theorem Γ187 : Γ 187 = some ⟨.other, 1, 8, [.nilFunc]⟩ := by kernel_rfl
@[go_sem] theorem Γ188 : Γ 188 = some ⟨.struct [(0, 3), (1, 3), (2, 3), (3, 3), (4, 3), (5, 3), (6, 3), (7, 3), (8, 3), (9, 78)], 10, 96, [.int .i64 0, .int .i64 0, .int .i64 0, .int .i64 0, .int .i64 0, .int .i64 0, .int .i64 0, .int .i64 0, .int .i64 0, .slice none 0 0]⟩ := by kernel_rfl
@[go_sem] theorem Γ189 : Γ 189 = some ⟨.struct [(0, 3), (1, 3), (2, 3), (3, 3), (4, 3), (5, 3), (6, 3), (7, 3), (8, 3), (9, 78)], 10, 96, [.int .i64 0, .int .i64 0, .int .i64 0, .int .i64 0, .int .i64 0, .int .i64 0, .int .i64 0, .int .i64 0, .int .i64 0, .slice none 0 0]⟩ := by kernel_rfl
@[go_sem] theorem Γ190 : Γ 190 = some ⟨.other, 1, 8, [.nilFunc]⟩ := by kernel_rfl
@[go_sem] theorem Γ191 : Γ 191 = some ⟨.struct [(0, 3), (1, 3), (2, 3), (3, 9)], 4, 40, [.int .i64 0, .int .i64 0, .int .i64 0, .string ⟨#[]⟩]⟩ := by kernel_rfl
@[go_sem] theorem Γ192 : Γ 192 = some ⟨.struct [(0, 3), (1, 3), (2, 3), (3, 9)], 4, 40, [.int .i64 0, .int .i64 0, .int .i64 0, .string ⟨#[]⟩]⟩ := by kernel_rfl
@[go_sem] theorem Γ193 : Γ 193 = some ⟨.other, 1, 8, [.nilFunc]⟩ := by kernel_rfl
@[go_sem] theorem Γ195 : Γ 195 = some ⟨.other, 1, 8, [.nilFunc]⟩ := by kernel_rfl
@[go_sem] theorem Γ196 : Γ 196 = some ⟨.other, 1, 8, [.nilFunc]⟩ := by kernel_rfl
@[go_sem] theorem Γ197 : Γ 197 = some ⟨.other, 1, 8, [.nilFunc]⟩ := by kernel_rfl
@[go_sem] theorem Γ198 : Γ 198 = some ⟨.map 3 97, 1, 8, [.map none]⟩ := by kernel_rfl
@[go_sem] theorem Γ199 : Γ 199 = some ⟨.map 3 3, 1, 8, [.map none]⟩ := by kernel_rfl
@[go_sem] theorem Γ201 : Γ 201 = some ⟨.map 9 9, 1, 8, [.map none]⟩ := by kernel_rfl
@[go_sem] theorem Γ202 : Γ 202 = some ⟨.map 3 192, 1, 8, [.map none]⟩ := by kernel_rfl
@[go_sem] theorem Γ203 : Γ 203 = some ⟨.struct [(0, 201), (1, 202)], 2, 16, [.map none, .map none]⟩ := by kernel_rfl
@[go_sem] theorem Γ204 : Γ 204 = some ⟨.struct [(0, 201), (1, 202)], 2, 16, [.map none, .map none]⟩ := by kernel_rfl
@[go_sem] theorem Γ205 : Γ 205 = some ⟨.struct [(0, 9), (1, 9)], 2, 32, [.string ⟨#[]⟩, .string ⟨#[]⟩]⟩ := by kernel_rfl
@[go_sem] theorem Γ206 : Γ 206 = some ⟨.struct [(0, 9), (1, 9)], 2, 32, [.string ⟨#[]⟩, .string ⟨#[]⟩]⟩ := by kernel_rfl
@[go_sem] theorem Γ208 : Γ 208 = some ⟨.other, 1, 8, [.nilFunc]⟩ := by kernel_rfl
@[go_sem] theorem Γ209 : Γ 209 = some ⟨.other, 1, 8, [.nilFunc]⟩ := by kernel_rfl
@[go_sem] theorem Γ210 : Γ 210 = some ⟨.slice 9, 1, 24, [.slice none 0 0]⟩ := by kernel_rfl
@[go_sem] theorem Γ211 : Γ 211 = some ⟨.other, 1, 8, [.nilFunc]⟩ := by kernel_rfl
@[go_sem] theorem Γ212 : Γ 212 = some ⟨.other, 1, 8, [.nilFunc]⟩ := by kernel_rfl
@[go_sem] theorem Γ213 : Γ 213 = some ⟨.other, 1, 8, [.nilFunc]⟩ := by kernel_rfl
@[go_sem] theorem Γ214 : Γ 214 = some ⟨.other, 1, 8, [.nilFunc]⟩ := by kernel_rfl
@[go_sem] theorem Γ215 : Γ 215 = some ⟨.other, 1, 8, [.nilFunc]⟩ := by kernel_rfl
@[go_sem] theorem Γ216 : Γ 216 = some ⟨.other, 1, 8, [.nilFunc]⟩ := by kernel_rfl
@[go_sem] theorem Γ217 : Γ 217 = some ⟨.other, 1, 8, [.nilFunc]⟩ := by kernel_rfl
@[go_sem] theorem Γ218 : Γ 218 = some ⟨.other, 1, 8, [.nilFunc]⟩ := by kernel_rfl
@[go_sem] theorem Γ219 : Γ 219 = some ⟨.struct [(0, 9), (1, 9)], 2, 32, [.string ⟨#[]⟩, .string ⟨#[]⟩]⟩ := by kernel_rfl
@[go_sem] theorem Γ220 : Γ 220 = some ⟨.other, 1, 8, [.nilFunc]⟩ := by kernel_rfl
@[go_sem] theorem Γ221 : Γ 221 = some ⟨.struct [(0, 3), (1, 3), (2, 3), (3, 9)], 4, 40, [.int .i64 0, .int .i64 0, .int .i64 0, .string ⟨#[]⟩]⟩ := by kernel_rfl
@[go_sem] theorem Γ222 : Γ 222 = some ⟨.other, 1, 8, [.nilFunc]⟩ := by kernel_rfl
@[go_sem] theorem Γ223 : Γ 223 = some ⟨.other, 1, 8, [.nilFunc]⟩ := by kernel_rfl
@[go_sem] theorem Γ224 : Γ 224 = some ⟨.other, 1, 8, [.nilFunc]⟩ := by kernel_rfl
@[go_sem] theorem Γ225 : Γ 225 = some ⟨.other, 1, 8, [.nilFunc]⟩ := by kernel_rfl
@[go_sem] theorem Γ226 : Γ 226 = some ⟨.other, 1, 8, [.nilFunc]⟩ := by kernel_rfl
@[go_sem] theorem Γ227 : Γ 227 = some ⟨.other, 1, 8, [.nilFunc]⟩ := by kernel_rfl
@[go_sem] theorem Γ228 : Γ 228 = some ⟨.other, 1, 8, [.nilFunc]⟩ := by kernel_rfl
@[go_sem] theorem Γ229 : Γ 229 = some ⟨.int .u64, 1, 8, [.int .u64 0]⟩ := by kernel_rfl
@[go_sem] theorem Γ230 : Γ 230 = some ⟨.other, 1, 8, [.nilFunc]⟩ := by kernel_rfl
@[go_sem] theorem Γ231 : Γ 231 = some ⟨.other, 1, 8, [.nilFunc]⟩ := by kernel_rfl
@[go_sem] theorem Γ232 : Γ 232 = some ⟨.other, 1, 8, [.nilFunc]⟩ := by kernel_rfl
@[go_sem] theorem Γ233 : Γ 233 = some ⟨.other, 1, 8, [.nilFunc]⟩ := by kernel_rfl
@[go_sem] theorem Γ234 : Γ 234 = some ⟨.other, 1, 8, [.nilFunc]⟩ := by kernel_rfl
@[go_sem] theorem Γ235 : Γ 235 = some ⟨.other, 1, 8, [.nilFunc]⟩ := by kernel_rfl
@[go_sem] theorem Γ236 : Γ 236 = some ⟨.slice 4, 1, 24, [.slice none 0 0]⟩ := by kernel_rfl
@[go_sem] theorem Γ237 : Γ 237 = some ⟨.other, 1, 8, [.nilFunc]⟩ := by kernel_rfl
@[go_sem] theorem Γ238 : Γ 238 = some ⟨.int .i64, 1, 8, [.int .i64 0]⟩ := by kernel_rfl
@[go_sem] theorem Γ240 : Γ 240 = some ⟨.other, 1, 8, [.nilFunc]⟩ := by kernel_rfl
@[go_sem] theorem Γ241 : Γ 241 = some ⟨.other, 1, 8, [.nilFunc]⟩ := by kernel_rfl
@[go_sem] theorem Γ242 : Γ 242 = some ⟨.other, 1, 8, [.nilFunc]⟩ := by kernel_rfl
@[go_sem] theorem Γ243 : Γ 243 = some ⟨.other, 1, 8, [.nilFunc]⟩ := by kernel_rfl
@[go_sem] theorem Γ245 : Γ 245 = some ⟨.other, 1, 8, [.nilFunc]⟩ := by kernel_rfl
@[go_sem] theorem Γ246 : Γ 246 = some ⟨.other, 1, 8, [.nilFunc]⟩ := by kernel_rfl
@[go_sem] theorem Γ247 : Γ 247 = some ⟨.int .u32, 1, 4, [.int .u32 0]⟩ := by kernel_rfl
@[go_sem] theorem Γ248 : Γ 248 = some ⟨.other, 1, 8, [.nilFunc]⟩ := by kernel_rfl
@[go_sem] theorem Γ249 : Γ 249 = some ⟨.int .u64, 1, 8, [.int .u64 0]⟩ := by kernel_rfl
@[go_sem] theorem Γ250 : Γ 250 = some ⟨.other, 1, 8, [.nilFunc]⟩ := by kernel_rfl
@[go_sem] theorem Γ251 : Γ 251 = some ⟨.other, 1, 8, [.nilFunc]⟩ := by kernel_rfl
@[go_sem] theorem Γ252 : Γ 252 = some ⟨.other, 1, 8, [.nilFunc]⟩ := by kernel_rfl
@[go_sem] theorem Γ253 : Γ 253 = some ⟨.other, 1, 8, [.nilFunc]⟩ := by kernel_rfl
@[go_sem] theorem Γ254 : Γ 254 = some ⟨.other, 1, 8, [.nilFunc]⟩ := by kernel_rfl
@[go_sem] theorem Γ255 : Γ 255 = some ⟨.other, 1, 8, [.nilFunc]⟩ := by kernel_rfl
@[go_sem] theorem Γ256 : Γ 256 = some ⟨.other, 1, 8, [.nilFunc]⟩ := by kernel_rfl
@[go_sem] theorem Γ257 : Γ 257 = some ⟨.int .u64, 1, 8, [.int .u64 0]⟩ := by kernel_rfl
@[go_sem] theorem Γ258 : Γ 258 = some ⟨.other, 1, 8, [.nilFunc]⟩ := by kernel_rfl
@[go_sem] theorem Γ259 : Γ 259 = some ⟨.other, 1, 8, [.nilFunc]⟩ := by kernel_rfl
@[go_sem] theorem Γ260 : Γ 260 = some ⟨.other, 1, 8, [.nilFunc]⟩ := by kernel_rfl
@[go_sem] theorem Γ261 : Γ 261 = some ⟨.other, 1, 8, [.pointer none]⟩ := by kernel_rfl
@[go_sem] theorem Γ262 : Γ 262 = some ⟨.other, 1, 8, [.nilFunc]⟩ := by kernel_rfl
@[go_sem] theorem Γ263 : Γ 263 = some ⟨.other, 1, 8, [.nilFunc]⟩ := by kernel_rfl
@[go_sem] theorem Γ264 : Γ 264 = some ⟨.other, 1, 8, [.nilFunc]⟩ := by kernel_rfl
@[go_sem] theorem Γ265 : Γ 265 = some ⟨.other, 1, 8, [.nilFunc]⟩ := by kernel_rfl
@[go_sem] theorem Γ266 : Γ 266 = some ⟨.other, 1, 8, [.nilFunc]⟩ := by kernel_rfl
@[go_sem] theorem Γ267 : Γ 267 = some ⟨.other, 1, 8, [.nilFunc]⟩ := by kernel_rfl
@[go_sem] theorem Γ268 : Γ 268 = some ⟨.other, 1, 8, [.nilFunc]⟩ := by kernel_rfl
@[go_sem] theorem Γ269 : Γ 269 = some ⟨.other, 1, 8, [.nilFunc]⟩ := by kernel_rfl
@[go_sem] theorem Γ270 : Γ 270 = some ⟨.other, 1, 8, [.nilFunc]⟩ := by kernel_rfl
@[go_sem] theorem Γ271 : Γ 271 = some ⟨.other, 1, 8, [.pointer none]⟩ := by kernel_rfl
@[go_sem] theorem Γ273 : Γ 273 = some ⟨.other, 1, 8, [.nilFunc]⟩ := by kernel_rfl
@[go_sem] theorem Γ274 : Γ 274 = some ⟨.other, 1, 8, [.nilFunc]⟩ := by kernel_rfl
@[go_sem] theorem Γ275 : Γ 275 = some ⟨.other, 1, 8, [.nilFunc]⟩ := by kernel_rfl
@[go_sem] theorem Γ276 : Γ 276 = some ⟨.other, 1, 8, [.nilFunc]⟩ := by kernel_rfl
@[go_sem] theorem Γ277 : Γ 277 = some ⟨.other, 1, 8, [.nilFunc]⟩ := by kernel_rfl
@[go_sem] theorem Γ278 : Γ 278 = some ⟨.struct [(0, 17), (1, 17), (2, 17), (3, 9)], 4, 40, [.pointer none, .pointer none, .pointer none, .string ⟨#[]⟩]⟩ := by kernel_rfl
@[go_sem] theorem Γ279 : Γ 279 = some ⟨.struct [(0, 17), (1, 17), (2, 17), (3, 9)], 4, 40, [.pointer none, .pointer none, .pointer none, .string ⟨#[]⟩]⟩ := by kernel_rfl
@[go_sem] theorem Γ283 : Γ 283 = some ⟨.other, 1, 8, [.nilFunc]⟩ := by kernel_rfl
@[go_sem] theorem Γ284 : Γ 284 = some ⟨.int .u8, 1, 1, [.int .u8 0]⟩ := by kernel_rfl
@[go_sem] theorem Γ285 : Γ 285 = some ⟨.int .u8, 1, 1, [.int .u8 0]⟩ := by kernel_rfl
@[go_sem] theorem Γ286 : Γ 286 = some ⟨.other, 1, 8, [.nilFunc]⟩ := by kernel_rfl
@[go_sem] theorem Γ287 : Γ 287 = some ⟨.other, 1, 8, [.pointer none]⟩ := by kernel_rfl
@[go_sem] theorem Γ288 : Γ 288 = some ⟨.int .i32, 1, 4, [.int .i32 0]⟩ := by kernel_rfl
@[go_sem] theorem Γ289 : Γ 289 = some ⟨.int .i32, 1, 4, [.int .i32 0]⟩ := by kernel_rfl
@[go_sem] theorem Γ290 : Γ 290 = some ⟨.struct [(0, 12), (1, 12), (2, 247), (3, 284), (4, 5), (5, 5), (6, 285), (7, 286), (8, 287), (9, 288), (10, 289)], 11, 48, [.int .u64 0, .int .u64 0, .int .u32 0, .int .u8 0, .int .u8 0, .int .u8 0, .int .u8 0, .nilFunc, .pointer none, .int .i32 0, .int .i32 0]⟩ := by kernel_rfl
@[go_sem] theorem Γ291 : Γ 291 = some ⟨.struct [(0, 12), (1, 12), (2, 247), (3, 284), (4, 5), (5, 5), (6, 285), (7, 286), (8, 287), (9, 288), (10, 289)], 11, 48, [.int .u64 0, .int .u64 0, .int .u32 0, .int .u8 0, .int .u8 0, .int .u8 0, .int .u8 0, .nilFunc, .pointer none, .int .i32 0, .int .i32 0]⟩ := by kernel_rfl
theorem eqTy_mk {P : Program} {t : Nat} {fs : Array Field} (hu : P.underlying t = some (.struct fs)) (h1 : fs.toList.all (fun f => !(f.name == "_")) = true) (h2 : (!P.stoodInHeld t && !P.eqGuardType P.depth t) = true) : EqTyOk P t := by
  simp only [Bool.and_eq_true, Bool.not_eq_true'] at h2
  refine .inl ⟨fs, hu, fun f hf he => ?_, h2.1, h2.2⟩
  have := List.all_eq_true.1 h1 f hf
  rw [he] at this
  cases this
theorem eqAr_mk {P : Program} {t n e : Nat} (hu : P.underlying t = some (.array n e)) (h2 : (!P.eqGuardType P.depth t) = true) : EqTyOk P t := .inr ⟨n, e, hu, by simpa using h2⟩
theorem eqTyOk61 : EqTyOk Try.prog 61 := eqTy_mk Try.underlying61 (by kernel_rfl) (by kernel_rfl)
theorem eqTyOk90 : EqTyOk Try.prog 90 := eqTy_mk Try.underlying90 (by kernel_rfl) (by kernel_rfl)
theorem eqTyOk97 : EqTyOk Try.prog 97 := eqTy_mk Try.underlying97 (by kernel_rfl) (by kernel_rfl)
theorem eqTyOk150 : EqTyOk Try.prog 150 := eqTy_mk Try.underlying150 (by kernel_rfl) (by kernel_rfl)
theorem eqTyOk192 : EqTyOk Try.prog 192 := eqTy_mk Try.underlying192 (by kernel_rfl) (by kernel_rfl)
theorem eqTyOk206 : EqTyOk Try.prog 206 := eqTy_mk Try.underlying206 (by kernel_rfl) (by kernel_rfl)
theorem eqTyOk219 : EqTyOk Try.prog 219 := eqTy_mk Try.underlying219 (by kernel_rfl) (by kernel_rfl)
theorem eqTyOk221 : EqTyOk Try.prog 221 := eqTy_mk Try.underlying221 (by kernel_rfl) (by kernel_rfl)
theorem eqTyOk137 : EqTyOk Try.prog 137 := eqTy_mk Try.underlying137 (by kernel_rfl) (by kernel_rfl)
theorem eqTyOk138 : EqTyOk Try.prog 138 := eqTy_mk Try.underlying138 (by kernel_rfl) (by kernel_rfl)
theorem eqTyOk142 : EqTyOk Try.prog 142 := eqTy_mk Try.underlying142 (by kernel_rfl) (by kernel_rfl)
theorem eqTyOk143 : EqTyOk Try.prog 143 := eqTy_mk Try.underlying143 (by kernel_rfl) (by kernel_rfl)
theorem eqTyOk162 : EqTyOk Try.prog 162 := eqTy_mk Try.underlying162 (by kernel_rfl) (by kernel_rfl)
theorem eqTyOk163 : EqTyOk Try.prog 163 := eqTy_mk Try.underlying163 (by kernel_rfl) (by kernel_rfl)
theorem eqTyOk165 : EqTyOk Try.prog 165 := eqTy_mk Try.underlying165 (by kernel_rfl) (by kernel_rfl)
theorem eqTyOk166 : EqTyOk Try.prog 166 := eqTy_mk Try.underlying166 (by kernel_rfl) (by kernel_rfl)
def eqTyL : List Nat := [61, 90, 97, 150, 192, 206, 219, 221, 137, 138, 142, 143, 162, 163, 165, 166]
theorem eqTyLOk : ∀ t, t ∈ eqTyL → EqTyOk Try.prog t := by
  intro t h
  simp only [eqTyL, List.mem_cons, List.not_mem_nil, or_false] at h
  rcases h with rfl | rfl | rfl | rfl | rfl | rfl | rfl | rfl | rfl | rfl | rfl | rfl | rfl | rfl | rfl | rfl
  · exact eqTyOk61
  · exact eqTyOk90
  · exact eqTyOk97
  · exact eqTyOk150
  · exact eqTyOk192
  · exact eqTyOk206
  · exact eqTyOk219
  · exact eqTyOk221
  · exact eqTyOk137
  · exact eqTyOk138
  · exact eqTyOk142
  · exact eqTyOk143
  · exact eqTyOk162
  · exact eqTyOk163
  · exact eqTyOk165
  · exact eqTyOk166
theorem ptr_mk {P : Program} {t e : Nat} (hu : P.underlying t = some (.pointer e)) (h : (P.info? t).map (fun i => i.zero) = some (some (.pointer none))) : PtrOk P t := by
  cases hi : P.info? t with
  | none => rw [hi] at h; cases h
  | some i => rw [hi] at h; exact ⟨e, i, hu, hi, by simpa using h⟩
theorem mth_mk {P : Program} {t e f : Nat} {nm : String} (hu : P.underlying t = some (.pointer e)) (h : ((P.info? t).bind fun i => i.methods.find? (fun m => m.name == nm)).map (fun m => (m.path.toList.isEmpty, m.func)) = some (true, some (f, true))) : MthOk P t nm f := by
  obtain ⟨m, h1, h2⟩ := Option.map_eq_some_iff.1 h
  obtain ⟨i, h3, h4⟩ := Option.bind_eq_some_iff.1 h1
  simp only [Prod.mk.injEq, List.isEmpty_iff] at h2
  exact ⟨e, i, m, hu, h3, h4, h2.1, h2.2⟩
theorem ptrOk130 : PtrOk Try.prog 130 := ptr_mk Try.underlying130 (by kernel_rfl)
theorem ptrOk152 : PtrOk Try.prog 152 := ptr_mk Try.underlying152 (by kernel_rfl)
def ptrL : List Nat := [130, 152]
theorem ptrLOk : ∀ t, t ∈ ptrL → PtrOk Try.prog t := by
  intro t h
  simp only [ptrL, List.mem_cons, List.not_mem_nil, or_false] at h
  rcases h with rfl | rfl
  · exact ptrOk130
  · exact ptrOk152
theorem mthOk0 : MthOk Try.prog 152 "loop.example/s01586/impl.carry" 106 := mth_mk Try.underlying152 (by kernel_rfl)
theorem mthOk1 : MthOk Try.prog 152 "loop.example/s01586/impl.change" 148 := mth_mk Try.underlying152 (by kernel_rfl)
theorem mthOk2 : MthOk Try.prog 152 "loop.example/s01586/impl.tell" 114 := mth_mk Try.underlying152 (by kernel_rfl)
def findM (t : Nat) (nm : String) : List (Nat × String × Nat) → Option Nat
  | [] => none
  | p :: l => if t = p.1 ∧ nm = p.2.1 then some p.2.2 else findM t nm l
def AllM : List (Nat × String × Nat) → Prop
  | [] => True
  | p :: l => MthOk Try.prog p.1 p.2.1 p.2.2 ∧ AllM l
theorem findM_ok {t : Nat} {nm : String} {f : Nat} : ∀ {l : List (Nat × String × Nat)}, AllM l → findM t nm l = some f → MthOk Try.prog t nm f
  | [], _, h => by cases h
  | (t', nm', f') :: l, k, h => by
    by_cases hc : t = t' ∧ nm = nm'
    · obtain ⟨h1, h2⟩ := hc
      subst h1; subst h2
      have h' : some f' = some f := (if_pos (show t = t ∧ nm = nm from ⟨rfl, rfl⟩) : findM t nm ((t, nm, f') :: l) = some f').symm.trans h
      have := Option.some.inj h'
      subst this
      exact k.1
    · exact findM_ok k.2 ((if_neg hc : findM t nm ((t', nm', f') :: l) = findM t nm l).symm.trans h)
def mthL : List (Nat × String × Nat) := [(152, "loop.example/s01586/impl.carry", 106), (152, "loop.example/s01586/impl.change", 148), (152, "loop.example/s01586/impl.tell", 114)]
theorem mthLOk : AllM mthL := ⟨mthOk0, mthOk1, mthOk2, trivial⟩
def mthOf (t : Nat) (nm : String) : Option Nat := findM t nm mthL
theorem mthOfOk (t : Nat) (nm : String) (f : Nat) (h : mthOf t nm = some f) : MthOk Try.prog t nm f := findM_ok mthLOk h
@[go_sem] theorem mthOf0 : mthOf 152 "loop.example/s01586/impl.carry" = some 106 := by kernel_rfl
@[go_sem] theorem mthOf1 : mthOf 152 "loop.example/s01586/impl.change" = some 148 := by kernel_rfl
@[go_sem] theorem mthOf2 : mthOf 152 "loop.example/s01586/impl.tell" = some 114 := by kernel_rfl
def eqTys : Eqs := ⟨eqTyL, ptrL, mthOf⟩
theorem eqTysOk : EqsOk Try.prog eqTys := ⟨eqTyLOk, ptrLOk, mthOfOk⟩
end Go.Proofs.YthnpbfljoghbmaaA
