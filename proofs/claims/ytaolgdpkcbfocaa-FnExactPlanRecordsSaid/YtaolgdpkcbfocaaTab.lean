/- The types of this seat, told shortly. -/
import Derived.Test.YtaolgdpkcbfocaaProg
import Derived.Test.YtaolgdpkcbfocaaAm13
import Derived.KernelRfl
namespace Go.Proofs.YtaolgdpkcbfocaaA
open Go.Proofs
set_option autoImplicit false
set_option maxRecDepth 10000
theorem rowOk_mk {P : Program} {t : Nat} {r : Row} (hk : kOk P t r.k) (z : Value) (hi : (P.info? t).map (fun i => (i.size, i.bytes, i.zero)) = some (r.size, r.bytes, some z)) (h1 : z.cells.toList = r.zero) (h2 : r.k.isRow = true → z = .agg r.zero.toArray) (h3 : r.zero.length = r.size) (h4 : r.zero.all (·.oneCell') = true) (h5 : r.k.isRow = false → r.size = 1) : RowOk P t r := by
  cases hq : P.info? t with
  | none => rw [hq] at hi; cases hi
  | some i =>
    rw [hq] at hi
    simp only [Option.map_some, Option.some.injEq, Prod.mk.injEq] at hi
    exact ⟨hk, i, hq, hi.1, hi.2.1, ⟨z, hi.2.2, h1, h2⟩, h3, h4, h5⟩
def row1 : Row := ⟨.other, 1, 8, [.nilFunc]⟩
theorem rowOk1 : RowOk Try.prog 1 row1 := rowOk_mk ⟨_, Try.underlying1, rfl⟩ (.nilFunc) (by kernel_rfl) rfl (fun h => by cases h) rfl rfl (fun _ => rfl)
def row2 : Row := ⟨.int .i64, 1, 8, [.int .i64 0]⟩
theorem rowOk2 : RowOk Try.prog 2 row2 := rowOk_mk Try.underlying2 (.int .i64 0) (by kernel_rfl) rfl (fun h => by cases h) rfl rfl (fun _ => rfl)
def row3 : Row := ⟨.int .i64, 1, 8, [.int .i64 0]⟩
theorem rowOk3 : RowOk Try.prog 3 row3 := rowOk_mk Try.underlying3 (.int .i64 0) (by kernel_rfl) rfl (fun h => by cases h) rfl rfl (fun _ => rfl)
def row4 : Row := ⟨.bool, 1, 1, [.bool false]⟩
theorem rowOk4 : RowOk Try.prog 4 row4 := rowOk_mk Try.underlying4 (.bool false) (by kernel_rfl) rfl (fun h => by cases h) rfl rfl (fun _ => rfl)
def row5 : Row := ⟨.int .u8, 1, 1, [.int .u8 0]⟩
theorem rowOk5 : RowOk Try.prog 5 row5 := rowOk_mk Try.underlying5 (.int .u8 0) (by kernel_rfl) rfl (fun h => by cases h) rfl rfl (fun _ => rfl)
def row6 : Row := ⟨.int .u8, 1, 1, [.int .u8 0]⟩
theorem rowOk6 : RowOk Try.prog 6 row6 := rowOk_mk Try.underlying6 (.int .u8 0) (by kernel_rfl) rfl (fun h => by cases h) rfl rfl (fun _ => rfl)
def row7 : Row := ⟨.struct [(0, 2), (1, 3), (2, 4), (3, 6)], 4, 24, [.int .i64 0, .int .i64 0, .bool false, .int .u8 0]⟩
theorem rowOk7 : RowOk Try.prog 7 row7 := rowOk_mk ⟨_, Try.underlying7, rfl⟩ (.agg #[.int .i64 0, .int .i64 0, .bool false, .int .u8 0]) (by kernel_rfl) rfl (fun _ => rfl) rfl rfl (fun h => by cases h)
def row8 : Row := ⟨.struct [(0, 2), (1, 3), (2, 4), (3, 6)], 4, 24, [.int .i64 0, .int .i64 0, .bool false, .int .u8 0]⟩
theorem rowOk8 : RowOk Try.prog 8 row8 := rowOk_mk ⟨_, Try.underlying8, rfl⟩ (.agg #[.int .i64 0, .int .i64 0, .bool false, .int .u8 0]) (by kernel_rfl) rfl (fun _ => rfl) rfl rfl (fun h => by cases h)
def row9 : Row := ⟨.str, 1, 16, [.string ⟨#[]⟩]⟩
theorem rowOk9 : RowOk Try.prog 9 row9 := rowOk_mk Try.underlying9 (.string ⟨#[]⟩) (by kernel_rfl) rfl (fun h => by cases h) rfl rfl (fun _ => rfl)
def row10 : Row := ⟨.str, 1, 16, [.string ⟨#[]⟩]⟩
theorem rowOk10 : RowOk Try.prog 10 row10 := rowOk_mk Try.underlying10 (.string ⟨#[]⟩) (by kernel_rfl) rfl (fun h => by cases h) rfl rfl (fun _ => rfl)
def row11 : Row := ⟨.str, 1, 16, [.string ⟨#[]⟩]⟩
theorem rowOk11 : RowOk Try.prog 11 row11 := rowOk_mk Try.underlying11 (.string ⟨#[]⟩) (by kernel_rfl) rfl (fun h => by cases h) rfl rfl (fun _ => rfl)
def row12 : Row := ⟨.int .u64, 1, 8, [.int .u64 0]⟩
theorem rowOk12 : RowOk Try.prog 12 row12 := rowOk_mk Try.underlying12 (.int .u64 0) (by kernel_rfl) rfl (fun h => by cases h) rfl rfl (fun _ => rfl)
def row13 : Row := ⟨.struct [(0, 9), (1, 12)], 2, 24, [.string ⟨#[]⟩, .int .u64 0]⟩
theorem rowOk13 : RowOk Try.prog 13 row13 := rowOk_mk ⟨_, Try.underlying13, rfl⟩ (.agg #[.string ⟨#[]⟩, .int .u64 0]) (by kernel_rfl) rfl (fun _ => rfl) rfl rfl (fun h => by cases h)
def row14 : Row := ⟨.struct [(0, 9), (1, 12)], 2, 24, [.string ⟨#[]⟩, .int .u64 0]⟩
theorem rowOk14 : RowOk Try.prog 14 row14 := rowOk_mk ⟨_, Try.underlying14, rfl⟩ (.agg #[.string ⟨#[]⟩, .int .u64 0]) (by kernel_rfl) rfl (fun _ => rfl) rfl rfl (fun h => by cases h)
def row15 : Row := ⟨.other, 1, 8, [.pointer none]⟩
theorem rowOk15 : RowOk Try.prog 15 row15 := rowOk_mk ⟨_, Try.underlying15, rfl⟩ (.pointer none) (by kernel_rfl) rfl (fun h => by cases h) rfl rfl (fun _ => rfl)
def row16 : Row := ⟨.other, 1, 8, [.pointer none]⟩
theorem rowOk16 : RowOk Try.prog 16 row16 := rowOk_mk ⟨_, Try.underlying16, rfl⟩ (.pointer none) (by kernel_rfl) rfl (fun h => by cases h) rfl rfl (fun _ => rfl)
def row17 : Row := ⟨.other, 1, 8, [.pointer none]⟩
theorem rowOk17 : RowOk Try.prog 17 row17 := rowOk_mk ⟨_, Try.underlying17, rfl⟩ (.pointer none) (by kernel_rfl) rfl (fun h => by cases h) rfl rfl (fun _ => rfl)
def row18 : Row := ⟨.struct [(0, 17)], 1, 8, [.pointer none]⟩
theorem rowOk18 : RowOk Try.prog 18 row18 := rowOk_mk ⟨_, Try.underlying18, rfl⟩ (.agg #[.pointer none]) (by kernel_rfl) rfl (fun _ => rfl) rfl rfl (fun h => by cases h)
def row19 : Row := ⟨.struct [(0, 17)], 1, 8, [.pointer none]⟩
theorem rowOk19 : RowOk Try.prog 19 row19 := rowOk_mk ⟨_, Try.underlying19, rfl⟩ (.agg #[.pointer none]) (by kernel_rfl) rfl (fun _ => rfl) rfl rfl (fun h => by cases h)
def row20 : Row := ⟨.other, 1, 16, [.nilIface]⟩
theorem rowOk20 : RowOk Try.prog 20 row20 := rowOk_mk ⟨_, Try.underlying20, rfl⟩ (.nilIface) (by kernel_rfl) rfl (fun h => by cases h) rfl rfl (fun _ => rfl)
def row21 : Row := ⟨.int .i32, 1, 4, [.int .i32 0]⟩
theorem rowOk21 : RowOk Try.prog 21 row21 := rowOk_mk Try.underlying21 (.int .i32 0) (by kernel_rfl) rfl (fun h => by cases h) rfl rfl (fun _ => rfl)
def row22 : Row := ⟨.struct [(0, 3), (1, 3), (2, 3), (3, 9), (4, 9), (5, 9)], 6, 72, [.int .i64 0, .int .i64 0, .int .i64 0, .string ⟨#[]⟩, .string ⟨#[]⟩, .string ⟨#[]⟩]⟩
theorem rowOk22 : RowOk Try.prog 22 row22 := rowOk_mk ⟨_, Try.underlying22, rfl⟩ (.agg #[.int .i64 0, .int .i64 0, .int .i64 0, .string ⟨#[]⟩, .string ⟨#[]⟩, .string ⟨#[]⟩]) (by kernel_rfl) rfl (fun _ => rfl) rfl rfl (fun h => by cases h)
def row23 : Row := ⟨.struct [(0, 3), (1, 3), (2, 3), (3, 9), (4, 9), (5, 9)], 6, 72, [.int .i64 0, .int .i64 0, .int .i64 0, .string ⟨#[]⟩, .string ⟨#[]⟩, .string ⟨#[]⟩]⟩
theorem rowOk23 : RowOk Try.prog 23 row23 := rowOk_mk ⟨_, Try.underlying23, rfl⟩ (.agg #[.int .i64 0, .int .i64 0, .int .i64 0, .string ⟨#[]⟩, .string ⟨#[]⟩, .string ⟨#[]⟩]) (by kernel_rfl) rfl (fun _ => rfl) rfl rfl (fun h => by cases h)
def row24 : Row := ⟨.struct [(0, 3), (1, 3), (2, 3), (3, 3), (4, 3), (5, 3), (6, 3), (7, 23)], 13, 128, [.int .i64 0, .int .i64 0, .int .i64 0, .int .i64 0, .int .i64 0, .int .i64 0, .int .i64 0, .int .i64 0, .int .i64 0, .int .i64 0, .string ⟨#[]⟩, .string ⟨#[]⟩, .string ⟨#[]⟩]⟩
theorem rowOk24 : RowOk Try.prog 24 row24 := rowOk_mk ⟨_, Try.underlying24, rfl⟩ (.agg #[.int .i64 0, .int .i64 0, .int .i64 0, .int .i64 0, .int .i64 0, .int .i64 0, .int .i64 0, .int .i64 0, .int .i64 0, .int .i64 0, .string ⟨#[]⟩, .string ⟨#[]⟩, .string ⟨#[]⟩]) (by kernel_rfl) rfl (fun _ => rfl) rfl rfl (fun h => by cases h)
def row25 : Row := ⟨.struct [(0, 3), (1, 3), (2, 3), (3, 3), (4, 3), (5, 3), (6, 3), (7, 23)], 13, 128, [.int .i64 0, .int .i64 0, .int .i64 0, .int .i64 0, .int .i64 0, .int .i64 0, .int .i64 0, .int .i64 0, .int .i64 0, .int .i64 0, .string ⟨#[]⟩, .string ⟨#[]⟩, .string ⟨#[]⟩]⟩
theorem rowOk25 : RowOk Try.prog 25 row25 := rowOk_mk ⟨_, Try.underlying25, rfl⟩ (.agg #[.int .i64 0, .int .i64 0, .int .i64 0, .int .i64 0, .int .i64 0, .int .i64 0, .int .i64 0, .int .i64 0, .int .i64 0, .int .i64 0, .string ⟨#[]⟩, .string ⟨#[]⟩, .string ⟨#[]⟩]) (by kernel_rfl) rfl (fun _ => rfl) rfl rfl (fun h => by cases h)
def row26 : Row := ⟨.struct [(0, 3), (1, 3), (2, 3), (3, 3), (4, 9), (5, 3)], 6, 56, [.int .i64 0, .int .i64 0, .int .i64 0, .int .i64 0, .string ⟨#[]⟩, .int .i64 0]⟩
theorem rowOk26 : RowOk Try.prog 26 row26 := rowOk_mk ⟨_, Try.underlying26, rfl⟩ (.agg #[.int .i64 0, .int .i64 0, .int .i64 0, .int .i64 0, .string ⟨#[]⟩, .int .i64 0]) (by kernel_rfl) rfl (fun _ => rfl) rfl rfl (fun h => by cases h)
def row27 : Row := ⟨.struct [(0, 3), (1, 3), (2, 3), (3, 3), (4, 9), (5, 3)], 6, 56, [.int .i64 0, .int .i64 0, .int .i64 0, .int .i64 0, .string ⟨#[]⟩, .int .i64 0]⟩
theorem rowOk27 : RowOk Try.prog 27 row27 := rowOk_mk ⟨_, Try.underlying27, rfl⟩ (.agg #[.int .i64 0, .int .i64 0, .int .i64 0, .int .i64 0, .string ⟨#[]⟩, .int .i64 0]) (by kernel_rfl) rfl (fun _ => rfl) rfl rfl (fun h => by cases h)
def row28 : Row := ⟨.struct [(0, 3), (1, 23), (7, 27)], 13, 136, [.int .i64 0, .int .i64 0, .int .i64 0, .int .i64 0, .string ⟨#[]⟩, .string ⟨#[]⟩, .string ⟨#[]⟩, .int .i64 0, .int .i64 0, .int .i64 0, .int .i64 0, .string ⟨#[]⟩, .int .i64 0]⟩
theorem rowOk28 : RowOk Try.prog 28 row28 := rowOk_mk ⟨_, Try.underlying28, rfl⟩ (.agg #[.int .i64 0, .int .i64 0, .int .i64 0, .int .i64 0, .string ⟨#[]⟩, .string ⟨#[]⟩, .string ⟨#[]⟩, .int .i64 0, .int .i64 0, .int .i64 0, .int .i64 0, .string ⟨#[]⟩, .int .i64 0]) (by kernel_rfl) rfl (fun _ => rfl) rfl rfl (fun h => by cases h)
def row29 : Row := ⟨.struct [(0, 3), (1, 23), (7, 27)], 13, 136, [.int .i64 0, .int .i64 0, .int .i64 0, .int .i64 0, .string ⟨#[]⟩, .string ⟨#[]⟩, .string ⟨#[]⟩, .int .i64 0, .int .i64 0, .int .i64 0, .int .i64 0, .string ⟨#[]⟩, .int .i64 0]⟩
theorem rowOk29 : RowOk Try.prog 29 row29 := rowOk_mk ⟨_, Try.underlying29, rfl⟩ (.agg #[.int .i64 0, .int .i64 0, .int .i64 0, .int .i64 0, .string ⟨#[]⟩, .string ⟨#[]⟩, .string ⟨#[]⟩, .int .i64 0, .int .i64 0, .int .i64 0, .int .i64 0, .string ⟨#[]⟩, .int .i64 0]) (by kernel_rfl) rfl (fun _ => rfl) rfl rfl (fun h => by cases h)
def row30 : Row := ⟨.other, 1, 8, [.nilFunc]⟩
theorem rowOk30 : RowOk Try.prog 30 row30 := rowOk_mk ⟨_, Try.underlying30, rfl⟩ (.nilFunc) (by kernel_rfl) rfl (fun h => by cases h) rfl rfl (fun _ => rfl)
def row31 : Row := ⟨.other, 1, 8, [.nilFunc]⟩
theorem rowOk31 : RowOk Try.prog 31 row31 := rowOk_mk ⟨_, Try.underlying31, rfl⟩ (.nilFunc) (by kernel_rfl) rfl (fun h => by cases h) rfl rfl (fun _ => rfl)
def row32 : Row := ⟨.struct [(0, 3), (1, 3), (2, 3), (3, 9), (4, 9), (5, 9)], 6, 72, [.int .i64 0, .int .i64 0, .int .i64 0, .string ⟨#[]⟩, .string ⟨#[]⟩, .string ⟨#[]⟩]⟩
theorem rowOk32 : RowOk Try.prog 32 row32 := rowOk_mk ⟨_, Try.underlying32, rfl⟩ (.agg #[.int .i64 0, .int .i64 0, .int .i64 0, .string ⟨#[]⟩, .string ⟨#[]⟩, .string ⟨#[]⟩]) (by kernel_rfl) rfl (fun _ => rfl) rfl rfl (fun h => by cases h)
def row33 : Row := ⟨.struct [(0, 3), (1, 3), (2, 3), (3, 3), (4, 3), (5, 3), (6, 3), (7, 32)], 13, 128, [.int .i64 0, .int .i64 0, .int .i64 0, .int .i64 0, .int .i64 0, .int .i64 0, .int .i64 0, .int .i64 0, .int .i64 0, .int .i64 0, .string ⟨#[]⟩, .string ⟨#[]⟩, .string ⟨#[]⟩]⟩
theorem rowOk33 : RowOk Try.prog 33 row33 := rowOk_mk ⟨_, Try.underlying33, rfl⟩ (.agg #[.int .i64 0, .int .i64 0, .int .i64 0, .int .i64 0, .int .i64 0, .int .i64 0, .int .i64 0, .int .i64 0, .int .i64 0, .int .i64 0, .string ⟨#[]⟩, .string ⟨#[]⟩, .string ⟨#[]⟩]) (by kernel_rfl) rfl (fun _ => rfl) rfl rfl (fun h => by cases h)
def row34 : Row := ⟨.struct [(0, 3), (1, 3), (2, 3), (3, 3), (4, 3), (5, 3), (6, 3), (7, 32)], 13, 128, [.int .i64 0, .int .i64 0, .int .i64 0, .int .i64 0, .int .i64 0, .int .i64 0, .int .i64 0, .int .i64 0, .int .i64 0, .int .i64 0, .string ⟨#[]⟩, .string ⟨#[]⟩, .string ⟨#[]⟩]⟩
theorem rowOk34 : RowOk Try.prog 34 row34 := rowOk_mk ⟨_, Try.underlying34, rfl⟩ (.agg #[.int .i64 0, .int .i64 0, .int .i64 0, .int .i64 0, .int .i64 0, .int .i64 0, .int .i64 0, .int .i64 0, .int .i64 0, .int .i64 0, .string ⟨#[]⟩, .string ⟨#[]⟩, .string ⟨#[]⟩]) (by kernel_rfl) rfl (fun _ => rfl) rfl rfl (fun h => by cases h)
def row35 : Row := ⟨.struct [(0, 3), (1, 3), (2, 3), (3, 34)], 16, 152, [.int .i64 0, .int .i64 0, .int .i64 0, .int .i64 0, .int .i64 0, .int .i64 0, .int .i64 0, .int .i64 0, .int .i64 0, .int .i64 0, .int .i64 0, .int .i64 0, .int .i64 0, .string ⟨#[]⟩, .string ⟨#[]⟩, .string ⟨#[]⟩]⟩
theorem rowOk35 : RowOk Try.prog 35 row35 := rowOk_mk ⟨_, Try.underlying35, rfl⟩ (.agg #[.int .i64 0, .int .i64 0, .int .i64 0, .int .i64 0, .int .i64 0, .int .i64 0, .int .i64 0, .int .i64 0, .int .i64 0, .int .i64 0, .int .i64 0, .int .i64 0, .int .i64 0, .string ⟨#[]⟩, .string ⟨#[]⟩, .string ⟨#[]⟩]) (by kernel_rfl) rfl (fun _ => rfl) rfl rfl (fun h => by cases h)
def row36 : Row := ⟨.struct [(0, 3), (1, 3), (2, 3), (3, 34)], 16, 152, [.int .i64 0, .int .i64 0, .int .i64 0, .int .i64 0, .int .i64 0, .int .i64 0, .int .i64 0, .int .i64 0, .int .i64 0, .int .i64 0, .int .i64 0, .int .i64 0, .int .i64 0, .string ⟨#[]⟩, .string ⟨#[]⟩, .string ⟨#[]⟩]⟩
theorem rowOk36 : RowOk Try.prog 36 row36 := rowOk_mk ⟨_, Try.underlying36, rfl⟩ (.agg #[.int .i64 0, .int .i64 0, .int .i64 0, .int .i64 0, .int .i64 0, .int .i64 0, .int .i64 0, .int .i64 0, .int .i64 0, .int .i64 0, .int .i64 0, .int .i64 0, .int .i64 0, .string ⟨#[]⟩, .string ⟨#[]⟩, .string ⟨#[]⟩]) (by kernel_rfl) rfl (fun _ => rfl) rfl rfl (fun h => by cases h)
def row37 : Row := ⟨.other, 1, 8, [.nilFunc]⟩
theorem rowOk37 : RowOk Try.prog 37 row37 := rowOk_mk ⟨_, Try.underlying37, rfl⟩ (.nilFunc) (by kernel_rfl) rfl (fun h => by cases h) rfl rfl (fun _ => rfl)
def row38 : Row := ⟨.other, 1, 8, [.nilFunc]⟩
theorem rowOk38 : RowOk Try.prog 38 row38 := rowOk_mk ⟨_, Try.underlying38, rfl⟩ (.nilFunc) (by kernel_rfl) rfl (fun h => by cases h) rfl rfl (fun _ => rfl)
def row39 : Row := ⟨.struct [(0, 3), (1, 3), (2, 3), (3, 3), (4, 9), (5, 3)], 6, 56, [.int .i64 0, .int .i64 0, .int .i64 0, .int .i64 0, .string ⟨#[]⟩, .int .i64 0]⟩
theorem rowOk39 : RowOk Try.prog 39 row39 := rowOk_mk ⟨_, Try.underlying39, rfl⟩ (.agg #[.int .i64 0, .int .i64 0, .int .i64 0, .int .i64 0, .string ⟨#[]⟩, .int .i64 0]) (by kernel_rfl) rfl (fun _ => rfl) rfl rfl (fun h => by cases h)
def row40 : Row := ⟨.struct [(0, 3), (1, 32), (7, 39)], 13, 136, [.int .i64 0, .int .i64 0, .int .i64 0, .int .i64 0, .string ⟨#[]⟩, .string ⟨#[]⟩, .string ⟨#[]⟩, .int .i64 0, .int .i64 0, .int .i64 0, .int .i64 0, .string ⟨#[]⟩, .int .i64 0]⟩
theorem rowOk40 : RowOk Try.prog 40 row40 := rowOk_mk ⟨_, Try.underlying40, rfl⟩ (.agg #[.int .i64 0, .int .i64 0, .int .i64 0, .int .i64 0, .string ⟨#[]⟩, .string ⟨#[]⟩, .string ⟨#[]⟩, .int .i64 0, .int .i64 0, .int .i64 0, .int .i64 0, .string ⟨#[]⟩, .int .i64 0]) (by kernel_rfl) rfl (fun _ => rfl) rfl rfl (fun h => by cases h)
def row41 : Row := ⟨.struct [(0, 3), (1, 32), (7, 39)], 13, 136, [.int .i64 0, .int .i64 0, .int .i64 0, .int .i64 0, .string ⟨#[]⟩, .string ⟨#[]⟩, .string ⟨#[]⟩, .int .i64 0, .int .i64 0, .int .i64 0, .int .i64 0, .string ⟨#[]⟩, .int .i64 0]⟩
theorem rowOk41 : RowOk Try.prog 41 row41 := rowOk_mk ⟨_, Try.underlying41, rfl⟩ (.agg #[.int .i64 0, .int .i64 0, .int .i64 0, .int .i64 0, .string ⟨#[]⟩, .string ⟨#[]⟩, .string ⟨#[]⟩, .int .i64 0, .int .i64 0, .int .i64 0, .int .i64 0, .string ⟨#[]⟩, .int .i64 0]) (by kernel_rfl) rfl (fun _ => rfl) rfl rfl (fun h => by cases h)
def row42 : Row := ⟨.other, 1, 8, [.nilFunc]⟩
theorem rowOk42 : RowOk Try.prog 42 row42 := rowOk_mk ⟨_, Try.underlying42, rfl⟩ (.nilFunc) (by kernel_rfl) rfl (fun h => by cases h) rfl rfl (fun _ => rfl)
def row43 : Row := ⟨.other, 1, 8, [.nilFunc]⟩
theorem rowOk43 : RowOk Try.prog 43 row43 := rowOk_mk ⟨_, Try.underlying43, rfl⟩ (.nilFunc) (by kernel_rfl) rfl (fun h => by cases h) rfl rfl (fun _ => rfl)
def row44 : Row := ⟨.other, 1, 8, [.nilFunc]⟩
theorem rowOk44 : RowOk Try.prog 44 row44 := rowOk_mk ⟨_, Try.underlying44, rfl⟩ (.nilFunc) (by kernel_rfl) rfl (fun h => by cases h) rfl rfl (fun _ => rfl)
def row45 : Row := ⟨.slice 114, 1, 24, [.slice none 0 0]⟩
theorem rowOk45 : RowOk Try.prog 45 row45 := rowOk_mk Try.underlying45 (.slice none 0 0) (by kernel_rfl) rfl (fun h => by cases h) rfl rfl (fun _ => rfl)
def row46 : Row := ⟨.struct [(0, 3), (1, 3), (2, 45)], 3, 40, [.int .i64 0, .int .i64 0, .slice none 0 0]⟩
theorem rowOk46 : RowOk Try.prog 46 row46 := rowOk_mk ⟨_, Try.underlying46, rfl⟩ (.agg #[.int .i64 0, .int .i64 0, .slice none 0 0]) (by kernel_rfl) rfl (fun _ => rfl) rfl rfl (fun h => by cases h)
def row47 : Row := ⟨.struct [(0, 3), (1, 3), (2, 45)], 3, 40, [.int .i64 0, .int .i64 0, .slice none 0 0]⟩
theorem rowOk47 : RowOk Try.prog 47 row47 := rowOk_mk ⟨_, Try.underlying47, rfl⟩ (.agg #[.int .i64 0, .int .i64 0, .slice none 0 0]) (by kernel_rfl) rfl (fun _ => rfl) rfl rfl (fun h => by cases h)
def row48 : Row := ⟨.other, 1, 8, [.nilFunc]⟩
theorem rowOk48 : RowOk Try.prog 48 row48 := rowOk_mk ⟨_, Try.underlying48, rfl⟩ (.nilFunc) (by kernel_rfl) rfl (fun h => by cases h) rfl rfl (fun _ => rfl)
def row49 : Row := ⟨.slice 89, 1, 24, [.slice none 0 0]⟩
theorem rowOk49 : RowOk Try.prog 49 row49 := rowOk_mk Try.underlying49 (.slice none 0 0) (by kernel_rfl) rfl (fun h => by cases h) rfl rfl (fun _ => rfl)
def row50 : Row := ⟨.struct [(0, 3), (1, 49)], 2, 32, [.int .i64 0, .slice none 0 0]⟩
theorem rowOk50 : RowOk Try.prog 50 row50 := rowOk_mk ⟨_, Try.underlying50, rfl⟩ (.agg #[.int .i64 0, .slice none 0 0]) (by kernel_rfl) rfl (fun _ => rfl) rfl rfl (fun h => by cases h)
def row51 : Row := ⟨.struct [(0, 3), (1, 49)], 2, 32, [.int .i64 0, .slice none 0 0]⟩
theorem rowOk51 : RowOk Try.prog 51 row51 := rowOk_mk ⟨_, Try.underlying51, rfl⟩ (.agg #[.int .i64 0, .slice none 0 0]) (by kernel_rfl) rfl (fun _ => rfl) rfl rfl (fun h => by cases h)
def row52 : Row := ⟨.other, 1, 8, [.nilFunc]⟩
theorem rowOk52 : RowOk Try.prog 52 row52 := rowOk_mk ⟨_, Try.underlying52, rfl⟩ (.nilFunc) (by kernel_rfl) rfl (fun h => by cases h) rfl rfl (fun _ => rfl)
def row53 : Row := ⟨.slice 87, 1, 24, [.slice none 0 0]⟩
theorem rowOk53 : RowOk Try.prog 53 row53 := rowOk_mk Try.underlying53 (.slice none 0 0) (by kernel_rfl) rfl (fun h => by cases h) rfl rfl (fun _ => rfl)
def row54 : Row := ⟨.struct [(0, 3), (1, 3), (2, 53)], 3, 40, [.int .i64 0, .int .i64 0, .slice none 0 0]⟩
theorem rowOk54 : RowOk Try.prog 54 row54 := rowOk_mk ⟨_, Try.underlying54, rfl⟩ (.agg #[.int .i64 0, .int .i64 0, .slice none 0 0]) (by kernel_rfl) rfl (fun _ => rfl) rfl rfl (fun h => by cases h)
def row55 : Row := ⟨.struct [(0, 3), (1, 3), (2, 53)], 3, 40, [.int .i64 0, .int .i64 0, .slice none 0 0]⟩
theorem rowOk55 : RowOk Try.prog 55 row55 := rowOk_mk ⟨_, Try.underlying55, rfl⟩ (.agg #[.int .i64 0, .int .i64 0, .slice none 0 0]) (by kernel_rfl) rfl (fun _ => rfl) rfl rfl (fun h => by cases h)
def row56 : Row := ⟨.other, 1, 8, [.nilFunc]⟩
theorem rowOk56 : RowOk Try.prog 56 row56 := rowOk_mk ⟨_, Try.underlying56, rfl⟩ (.nilFunc) (by kernel_rfl) rfl (fun h => by cases h) rfl rfl (fun _ => rfl)
def row57 : Row := ⟨.other, 1, 8, [.nilFunc]⟩
theorem rowOk57 : RowOk Try.prog 57 row57 := rowOk_mk ⟨_, Try.underlying57, rfl⟩ (.nilFunc) (by kernel_rfl) rfl (fun h => by cases h) rfl rfl (fun _ => rfl)
def row58 : Row := ⟨.other, 1, 8, [.nilFunc]⟩
theorem rowOk58 : RowOk Try.prog 58 row58 := rowOk_mk ⟨_, Try.underlying58, rfl⟩ (.nilFunc) (by kernel_rfl) rfl (fun h => by cases h) rfl rfl (fun _ => rfl)
def row59 : Row := ⟨.other, 1, 8, [.nilFunc]⟩
theorem rowOk59 : RowOk Try.prog 59 row59 := rowOk_mk ⟨_, Try.underlying59, rfl⟩ (.nilFunc) (by kernel_rfl) rfl (fun h => by cases h) rfl rfl (fun _ => rfl)
def row60 : Row := ⟨.other, 1, 8, [.nilFunc]⟩
theorem rowOk60 : RowOk Try.prog 60 row60 := rowOk_mk ⟨_, Try.underlying60, rfl⟩ (.nilFunc) (by kernel_rfl) rfl (fun h => by cases h) rfl rfl (fun _ => rfl)
def row61 : Row := ⟨.other, 1, 8, [.nilFunc]⟩
theorem rowOk61 : RowOk Try.prog 61 row61 := rowOk_mk ⟨_, Try.underlying61, rfl⟩ (.nilFunc) (by kernel_rfl) rfl (fun h => by cases h) rfl rfl (fun _ => rfl)
def row62 : Row := ⟨.slice 3, 1, 24, [.slice none 0 0]⟩
theorem rowOk62 : RowOk Try.prog 62 row62 := rowOk_mk Try.underlying62 (.slice none 0 0) (by kernel_rfl) rfl (fun h => by cases h) rfl rfl (fun _ => rfl)
def row63 : Row := ⟨.struct [(0, 3), (1, 3), (2, 3), (3, 3), (4, 3), (5, 3), (6, 3), (7, 3), (8, 3), (9, 3), (10, 3), (11, 3), (12, 53), (13, 62), (14, 62), (15, 62), (16, 62), (17, 62)], 18, 240, [.int .i64 0, .int .i64 0, .int .i64 0, .int .i64 0, .int .i64 0, .int .i64 0, .int .i64 0, .int .i64 0, .int .i64 0, .int .i64 0, .int .i64 0, .int .i64 0, .slice none 0 0, .slice none 0 0, .slice none 0 0, .slice none 0 0, .slice none 0 0, .slice none 0 0]⟩
theorem rowOk63 : RowOk Try.prog 63 row63 := rowOk_mk ⟨_, Try.underlying63, rfl⟩ (.agg #[.int .i64 0, .int .i64 0, .int .i64 0, .int .i64 0, .int .i64 0, .int .i64 0, .int .i64 0, .int .i64 0, .int .i64 0, .int .i64 0, .int .i64 0, .int .i64 0, .slice none 0 0, .slice none 0 0, .slice none 0 0, .slice none 0 0, .slice none 0 0, .slice none 0 0]) (by kernel_rfl) rfl (fun _ => rfl) rfl rfl (fun h => by cases h)
def row64 : Row := ⟨.struct [(0, 3), (1, 3), (2, 3), (3, 3), (4, 3), (5, 3), (6, 3), (7, 3), (8, 3), (9, 3), (10, 3), (11, 3), (12, 53), (13, 62), (14, 62), (15, 62), (16, 62), (17, 62)], 18, 240, [.int .i64 0, .int .i64 0, .int .i64 0, .int .i64 0, .int .i64 0, .int .i64 0, .int .i64 0, .int .i64 0, .int .i64 0, .int .i64 0, .int .i64 0, .int .i64 0, .slice none 0 0, .slice none 0 0, .slice none 0 0, .slice none 0 0, .slice none 0 0, .slice none 0 0]⟩
theorem rowOk64 : RowOk Try.prog 64 row64 := rowOk_mk ⟨_, Try.underlying64, rfl⟩ (.agg #[.int .i64 0, .int .i64 0, .int .i64 0, .int .i64 0, .int .i64 0, .int .i64 0, .int .i64 0, .int .i64 0, .int .i64 0, .int .i64 0, .int .i64 0, .int .i64 0, .slice none 0 0, .slice none 0 0, .slice none 0 0, .slice none 0 0, .slice none 0 0, .slice none 0 0]) (by kernel_rfl) rfl (fun _ => rfl) rfl rfl (fun h => by cases h)
def row65 : Row := ⟨.other, 1, 8, [.nilFunc]⟩
theorem rowOk65 : RowOk Try.prog 65 row65 := rowOk_mk ⟨_, Try.underlying65, rfl⟩ (.nilFunc) (by kernel_rfl) rfl (fun h => by cases h) rfl rfl (fun _ => rfl)
def row66 : Row := ⟨.other, 1, 8, [.nilFunc]⟩
theorem rowOk66 : RowOk Try.prog 66 row66 := rowOk_mk ⟨_, Try.underlying66, rfl⟩ (.nilFunc) (by kernel_rfl) rfl (fun h => by cases h) rfl rfl (fun _ => rfl)
def row67 : Row := ⟨.other, 1, 8, [.nilFunc]⟩
theorem rowOk67 : RowOk Try.prog 67 row67 := rowOk_mk ⟨_, Try.underlying67, rfl⟩ (.nilFunc) (by kernel_rfl) rfl (fun h => by cases h) rfl rfl (fun _ => rfl)
def row68 : Row := ⟨.other, 1, 8, [.nilFunc]⟩
theorem rowOk68 : RowOk Try.prog 68 row68 := rowOk_mk ⟨_, Try.underlying68, rfl⟩ (.nilFunc) (by kernel_rfl) rfl (fun h => by cases h) rfl rfl (fun _ => rfl)
def row69 : Row := ⟨.other, 1, 8, [.nilFunc]⟩
theorem rowOk69 : RowOk Try.prog 69 row69 := rowOk_mk ⟨_, Try.underlying69, rfl⟩ (.nilFunc) (by kernel_rfl) rfl (fun h => by cases h) rfl rfl (fun _ => rfl)
def row70 : Row := ⟨.other, 1, 8, [.nilFunc]⟩
theorem rowOk70 : RowOk Try.prog 70 row70 := rowOk_mk ⟨_, Try.underlying70, rfl⟩ (.nilFunc) (by kernel_rfl) rfl (fun h => by cases h) rfl rfl (fun _ => rfl)
def row71 : Row := ⟨.other, 1, 8, [.nilFunc]⟩
theorem rowOk71 : RowOk Try.prog 71 row71 := rowOk_mk ⟨_, Try.underlying71, rfl⟩ (.nilFunc) (by kernel_rfl) rfl (fun h => by cases h) rfl rfl (fun _ => rfl)
def row72 : Row := ⟨.other, 1, 8, [.nilFunc]⟩
theorem rowOk72 : RowOk Try.prog 72 row72 := rowOk_mk ⟨_, Try.underlying72, rfl⟩ (.nilFunc) (by kernel_rfl) rfl (fun h => by cases h) rfl rfl (fun _ => rfl)
def row73 : Row := ⟨.other, 1, 8, [.nilFunc]⟩
theorem rowOk73 : RowOk Try.prog 73 row73 := rowOk_mk ⟨_, Try.underlying73, rfl⟩ (.nilFunc) (by kernel_rfl) rfl (fun h => by cases h) rfl rfl (fun _ => rfl)
def row74 : Row := ⟨.other, 1, 8, [.nilFunc]⟩
theorem rowOk74 : RowOk Try.prog 74 row74 := rowOk_mk ⟨_, Try.underlying74, rfl⟩ (.nilFunc) (by kernel_rfl) rfl (fun h => by cases h) rfl rfl (fun _ => rfl)
def row75 : Row := ⟨.other, 1, 8, [.nilFunc]⟩
theorem rowOk75 : RowOk Try.prog 75 row75 := rowOk_mk ⟨_, Try.underlying75, rfl⟩ (.nilFunc) (by kernel_rfl) rfl (fun h => by cases h) rfl rfl (fun _ => rfl)
def row76 : Row := ⟨.other, 1, 8, [.nilFunc]⟩
theorem rowOk76 : RowOk Try.prog 76 row76 := rowOk_mk ⟨_, Try.underlying76, rfl⟩ (.nilFunc) (by kernel_rfl) rfl (fun h => by cases h) rfl rfl (fun _ => rfl)
def row77 : Row := ⟨.other, 1, 8, [.nilFunc]⟩
theorem rowOk77 : RowOk Try.prog 77 row77 := rowOk_mk ⟨_, Try.underlying77, rfl⟩ (.nilFunc) (by kernel_rfl) rfl (fun h => by cases h) rfl rfl (fun _ => rfl)
def row79 : Row := ⟨.other, 1, 8, [.nilFunc]⟩
theorem rowOk79 : RowOk Try.prog 79 row79 := rowOk_mk ⟨_, Try.underlying79, rfl⟩ (.nilFunc) (by kernel_rfl) rfl (fun h => by cases h) rfl rfl (fun _ => rfl)
def row80 : Row := ⟨.other, 1, 8, [.nilFunc]⟩
theorem rowOk80 : RowOk Try.prog 80 row80 := rowOk_mk ⟨_, Try.underlying80, rfl⟩ (.nilFunc) (by kernel_rfl) rfl (fun h => by cases h) rfl rfl (fun _ => rfl)
def row82 : Row := ⟨.other, 1, 8, [.nilFunc]⟩
theorem rowOk82 : RowOk Try.prog 82 row82 := rowOk_mk ⟨_, Try.underlying82, rfl⟩ (.nilFunc) (by kernel_rfl) rfl (fun h => by cases h) rfl rfl (fun _ => rfl)
def row83 : Row := ⟨.other, 1, 8, [.nilFunc]⟩
theorem rowOk83 : RowOk Try.prog 83 row83 := rowOk_mk ⟨_, Try.underlying83, rfl⟩ (.nilFunc) (by kernel_rfl) rfl (fun h => by cases h) rfl rfl (fun _ => rfl)
def row84 : Row := ⟨.other, 1, 8, [.nilFunc]⟩
theorem rowOk84 : RowOk Try.prog 84 row84 := rowOk_mk ⟨_, Try.underlying84, rfl⟩ (.nilFunc) (by kernel_rfl) rfl (fun h => by cases h) rfl rfl (fun _ => rfl)
def row85 : Row := ⟨.other, 1, 8, [.nilFunc]⟩
theorem rowOk85 : RowOk Try.prog 85 row85 := rowOk_mk ⟨_, Try.underlying85, rfl⟩ (.nilFunc) (by kernel_rfl) rfl (fun h => by cases h) rfl rfl (fun _ => rfl)
def row86 : Row := ⟨.struct [(0, 3), (1, 32)], 7, 80, [.int .i64 0, .int .i64 0, .int .i64 0, .int .i64 0, .string ⟨#[]⟩, .string ⟨#[]⟩, .string ⟨#[]⟩]⟩
theorem rowOk86 : RowOk Try.prog 86 row86 := rowOk_mk ⟨_, Try.underlying86, rfl⟩ (.agg #[.int .i64 0, .int .i64 0, .int .i64 0, .int .i64 0, .string ⟨#[]⟩, .string ⟨#[]⟩, .string ⟨#[]⟩]) (by kernel_rfl) rfl (fun _ => rfl) rfl rfl (fun h => by cases h)
def row87 : Row := ⟨.struct [(0, 3), (1, 32)], 7, 80, [.int .i64 0, .int .i64 0, .int .i64 0, .int .i64 0, .string ⟨#[]⟩, .string ⟨#[]⟩, .string ⟨#[]⟩]⟩
theorem rowOk87 : RowOk Try.prog 87 row87 := rowOk_mk ⟨_, Try.underlying87, rfl⟩ (.agg #[.int .i64 0, .int .i64 0, .int .i64 0, .int .i64 0, .string ⟨#[]⟩, .string ⟨#[]⟩, .string ⟨#[]⟩]) (by kernel_rfl) rfl (fun _ => rfl) rfl rfl (fun h => by cases h)
def row88 : Row := ⟨.struct [(0, 3), (1, 3), (2, 3), (3, 3), (4, 87)], 11, 112, [.int .i64 0, .int .i64 0, .int .i64 0, .int .i64 0, .int .i64 0, .int .i64 0, .int .i64 0, .int .i64 0, .string ⟨#[]⟩, .string ⟨#[]⟩, .string ⟨#[]⟩]⟩
theorem rowOk88 : RowOk Try.prog 88 row88 := rowOk_mk ⟨_, Try.underlying88, rfl⟩ (.agg #[.int .i64 0, .int .i64 0, .int .i64 0, .int .i64 0, .int .i64 0, .int .i64 0, .int .i64 0, .int .i64 0, .string ⟨#[]⟩, .string ⟨#[]⟩, .string ⟨#[]⟩]) (by kernel_rfl) rfl (fun _ => rfl) rfl rfl (fun h => by cases h)
def row89 : Row := ⟨.struct [(0, 3), (1, 3), (2, 3), (3, 3), (4, 87)], 11, 112, [.int .i64 0, .int .i64 0, .int .i64 0, .int .i64 0, .int .i64 0, .int .i64 0, .int .i64 0, .int .i64 0, .string ⟨#[]⟩, .string ⟨#[]⟩, .string ⟨#[]⟩]⟩
theorem rowOk89 : RowOk Try.prog 89 row89 := rowOk_mk ⟨_, Try.underlying89, rfl⟩ (.agg #[.int .i64 0, .int .i64 0, .int .i64 0, .int .i64 0, .int .i64 0, .int .i64 0, .int .i64 0, .int .i64 0, .string ⟨#[]⟩, .string ⟨#[]⟩, .string ⟨#[]⟩]) (by kernel_rfl) rfl (fun _ => rfl) rfl rfl (fun h => by cases h)
def row90 : Row := ⟨.other, 1, 8, [.nilFunc]⟩
theorem rowOk90 : RowOk Try.prog 90 row90 := rowOk_mk ⟨_, Try.underlying90, rfl⟩ (.nilFunc) (by kernel_rfl) rfl (fun h => by cases h) rfl rfl (fun _ => rfl)
def row91 : Row := ⟨.other, 1, 8, [.nilFunc]⟩
theorem rowOk91 : RowOk Try.prog 91 row91 := rowOk_mk ⟨_, Try.underlying91, rfl⟩ (.nilFunc) (by kernel_rfl) rfl (fun h => by cases h) rfl rfl (fun _ => rfl)
def row92 : Row := ⟨.other, 1, 8, [.nilFunc]⟩
theorem rowOk92 : RowOk Try.prog 92 row92 := rowOk_mk ⟨_, Try.underlying92, rfl⟩ (.nilFunc) (by kernel_rfl) rfl (fun h => by cases h) rfl rfl (fun _ => rfl)
def row93 : Row := ⟨.other, 1, 8, [.nilFunc]⟩
theorem rowOk93 : RowOk Try.prog 93 row93 := rowOk_mk ⟨_, Try.underlying93, rfl⟩ (.nilFunc) (by kernel_rfl) rfl (fun h => by cases h) rfl rfl (fun _ => rfl)
def row94 : Row := ⟨.other, 1, 8, [.nilFunc]⟩
theorem rowOk94 : RowOk Try.prog 94 row94 := rowOk_mk ⟨_, Try.underlying94, rfl⟩ (.nilFunc) (by kernel_rfl) rfl (fun h => by cases h) rfl rfl (fun _ => rfl)
def row95 : Row := ⟨.other, 1, 8, [.nilFunc]⟩
theorem rowOk95 : RowOk Try.prog 95 row95 := rowOk_mk ⟨_, Try.underlying95, rfl⟩ (.nilFunc) (by kernel_rfl) rfl (fun h => by cases h) rfl rfl (fun _ => rfl)
def row96 : Row := ⟨.other, 1, 8, [.nilFunc]⟩
theorem rowOk96 : RowOk Try.prog 96 row96 := rowOk_mk ⟨_, Try.underlying96, rfl⟩ (.nilFunc) (by kernel_rfl) rfl (fun h => by cases h) rfl rfl (fun _ => rfl)
def row97 : Row := ⟨.other, 1, 8, [.nilFunc]⟩
theorem rowOk97 : RowOk Try.prog 97 row97 := rowOk_mk ⟨_, Try.underlying97, rfl⟩ (.nilFunc) (by kernel_rfl) rfl (fun h => by cases h) rfl rfl (fun _ => rfl)
def row98 : Row := ⟨.other, 1, 8, [.nilFunc]⟩
theorem rowOk98 : RowOk Try.prog 98 row98 := rowOk_mk ⟨_, Try.underlying98, rfl⟩ (.nilFunc) (by kernel_rfl) rfl (fun h => by cases h) rfl rfl (fun _ => rfl)
def row99 : Row := ⟨.other, 1, 8, [.nilFunc]⟩
theorem rowOk99 : RowOk Try.prog 99 row99 := rowOk_mk ⟨_, Try.underlying99, rfl⟩ (.nilFunc) (by kernel_rfl) rfl (fun h => by cases h) rfl rfl (fun _ => rfl)
def row100 : Row := ⟨.other, 1, 8, [.nilFunc]⟩
theorem rowOk100 : RowOk Try.prog 100 row100 := rowOk_mk ⟨_, Try.underlying100, rfl⟩ (.nilFunc) (by kernel_rfl) rfl (fun h => by cases h) rfl rfl (fun _ => rfl)
def row101 : Row := ⟨.other, 1, 8, [.nilFunc]⟩
theorem rowOk101 : RowOk Try.prog 101 row101 := rowOk_mk ⟨_, Try.underlying101, rfl⟩ (.nilFunc) (by kernel_rfl) rfl (fun h => by cases h) rfl rfl (fun _ => rfl)
def row102 : Row := ⟨.other, 1, 8, [.nilFunc]⟩
theorem rowOk102 : RowOk Try.prog 102 row102 := rowOk_mk ⟨_, Try.underlying102, rfl⟩ (.nilFunc) (by kernel_rfl) rfl (fun h => by cases h) rfl rfl (fun _ => rfl)
def row103 : Row := ⟨.other, 1, 8, [.nilFunc]⟩
theorem rowOk103 : RowOk Try.prog 103 row103 := rowOk_mk ⟨_, Try.underlying103, rfl⟩ (.nilFunc) (by kernel_rfl) rfl (fun h => by cases h) rfl rfl (fun _ => rfl)
def row104 : Row := ⟨.other, 1, 8, [.nilFunc]⟩
theorem rowOk104 : RowOk Try.prog 104 row104 := rowOk_mk ⟨_, Try.underlying104, rfl⟩ (.nilFunc) (by kernel_rfl) rfl (fun h => by cases h) rfl rfl (fun _ => rfl)
def row105 : Row := ⟨.other, 1, 8, [.nilFunc]⟩
theorem rowOk105 : RowOk Try.prog 105 row105 := rowOk_mk ⟨_, Try.underlying105, rfl⟩ (.nilFunc) (by kernel_rfl) rfl (fun h => by cases h) rfl rfl (fun _ => rfl)
def row106 : Row := ⟨.other, 1, 8, [.pointer none]⟩
theorem rowOk106 : RowOk Try.prog 106 row106 := rowOk_mk ⟨_, Try.underlying106, rfl⟩ (.pointer none) (by kernel_rfl) rfl (fun h => by cases h) rfl rfl (fun _ => rfl)
def row107 : Row := ⟨.other, 1, 8, [.pointer none]⟩
theorem rowOk107 : RowOk Try.prog 107 row107 := rowOk_mk ⟨_, Try.underlying107, rfl⟩ (.pointer none) (by kernel_rfl) rfl (fun h => by cases h) rfl rfl (fun _ => rfl)
def row108 : Row := ⟨.struct [(0, 39)], 6, 56, [.int .i64 0, .int .i64 0, .int .i64 0, .int .i64 0, .string ⟨#[]⟩, .int .i64 0]⟩
theorem rowOk108 : RowOk Try.prog 108 row108 := rowOk_mk ⟨_, Try.underlying108, rfl⟩ (.agg #[.int .i64 0, .int .i64 0, .int .i64 0, .int .i64 0, .string ⟨#[]⟩, .int .i64 0]) (by kernel_rfl) rfl (fun _ => rfl) rfl rfl (fun h => by cases h)
def row109 : Row := ⟨.struct [(0, 39)], 6, 56, [.int .i64 0, .int .i64 0, .int .i64 0, .int .i64 0, .string ⟨#[]⟩, .int .i64 0]⟩
theorem rowOk109 : RowOk Try.prog 109 row109 := rowOk_mk ⟨_, Try.underlying109, rfl⟩ (.agg #[.int .i64 0, .int .i64 0, .int .i64 0, .int .i64 0, .string ⟨#[]⟩, .int .i64 0]) (by kernel_rfl) rfl (fun _ => rfl) rfl rfl (fun h => by cases h)
def row110 : Row := ⟨.other, 1, 8, [.nilFunc]⟩
theorem rowOk110 : RowOk Try.prog 110 row110 := rowOk_mk ⟨_, Try.underlying110, rfl⟩ (.nilFunc) (by kernel_rfl) rfl (fun h => by cases h) rfl rfl (fun _ => rfl)
def row111 : Row := ⟨.other, 1, 8, [.nilFunc]⟩
theorem rowOk111 : RowOk Try.prog 111 row111 := rowOk_mk ⟨_, Try.underlying111, rfl⟩ (.nilFunc) (by kernel_rfl) rfl (fun h => by cases h) rfl rfl (fun _ => rfl)
def row112 : Row := ⟨.other, 1, 8, [.nilFunc]⟩
theorem rowOk112 : RowOk Try.prog 112 row112 := rowOk_mk ⟨_, Try.underlying112, rfl⟩ (.nilFunc) (by kernel_rfl) rfl (fun h => by cases h) rfl rfl (fun _ => rfl)
def row113 : Row := ⟨.struct [(0, 3), (1, 23)], 7, 80, [.int .i64 0, .int .i64 0, .int .i64 0, .int .i64 0, .string ⟨#[]⟩, .string ⟨#[]⟩, .string ⟨#[]⟩]⟩
theorem rowOk113 : RowOk Try.prog 113 row113 := rowOk_mk ⟨_, Try.underlying113, rfl⟩ (.agg #[.int .i64 0, .int .i64 0, .int .i64 0, .int .i64 0, .string ⟨#[]⟩, .string ⟨#[]⟩, .string ⟨#[]⟩]) (by kernel_rfl) rfl (fun _ => rfl) rfl rfl (fun h => by cases h)
def row114 : Row := ⟨.struct [(0, 3), (1, 23)], 7, 80, [.int .i64 0, .int .i64 0, .int .i64 0, .int .i64 0, .string ⟨#[]⟩, .string ⟨#[]⟩, .string ⟨#[]⟩]⟩
theorem rowOk114 : RowOk Try.prog 114 row114 := rowOk_mk ⟨_, Try.underlying114, rfl⟩ (.agg #[.int .i64 0, .int .i64 0, .int .i64 0, .int .i64 0, .string ⟨#[]⟩, .string ⟨#[]⟩, .string ⟨#[]⟩]) (by kernel_rfl) rfl (fun _ => rfl) rfl rfl (fun h => by cases h)
def row115 : Row := ⟨.other, 1, 8, [.nilFunc]⟩
theorem rowOk115 : RowOk Try.prog 115 row115 := rowOk_mk ⟨_, Try.underlying115, rfl⟩ (.nilFunc) (by kernel_rfl) rfl (fun h => by cases h) rfl rfl (fun _ => rfl)
def row116 : Row := ⟨.other, 1, 8, [.nilFunc]⟩
theorem rowOk116 : RowOk Try.prog 116 row116 := rowOk_mk ⟨_, Try.underlying116, rfl⟩ (.nilFunc) (by kernel_rfl) rfl (fun h => by cases h) rfl rfl (fun _ => rfl)
def row117 : Row := ⟨.other, 1, 8, [.nilFunc]⟩
theorem rowOk117 : RowOk Try.prog 117 row117 := rowOk_mk ⟨_, Try.underlying117, rfl⟩ (.nilFunc) (by kernel_rfl) rfl (fun h => by cases h) rfl rfl (fun _ => rfl)
def row118 : Row := ⟨.other, 1, 8, [.nilFunc]⟩
theorem rowOk118 : RowOk Try.prog 118 row118 := rowOk_mk ⟨_, Try.underlying118, rfl⟩ (.nilFunc) (by kernel_rfl) rfl (fun h => by cases h) rfl rfl (fun _ => rfl)
def row119 : Row := ⟨.other, 1, 8, [.nilFunc]⟩
theorem rowOk119 : RowOk Try.prog 119 row119 := rowOk_mk ⟨_, Try.underlying119, rfl⟩ (.nilFunc) (by kernel_rfl) rfl (fun h => by cases h) rfl rfl (fun _ => rfl)
def row120 : Row := ⟨.other, 1, 8, [.nilFunc]⟩
theorem rowOk120 : RowOk Try.prog 120 row120 := rowOk_mk ⟨_, Try.underlying120, rfl⟩ (.nilFunc) (by kernel_rfl) rfl (fun h => by cases h) rfl rfl (fun _ => rfl)
def row121 : Row := ⟨.other, 1, 8, [.nilFunc]⟩
theorem rowOk121 : RowOk Try.prog 121 row121 := rowOk_mk ⟨_, Try.underlying121, rfl⟩ (.nilFunc) (by kernel_rfl) rfl (fun h => by cases h) rfl rfl (fun _ => rfl)
def row122 : Row := ⟨.other, 1, 8, [.nilFunc]⟩
theorem rowOk122 : RowOk Try.prog 122 row122 := rowOk_mk ⟨_, Try.underlying122, rfl⟩ (.nilFunc) (by kernel_rfl) rfl (fun h => by cases h) rfl rfl (fun _ => rfl)
def row123 : Row := ⟨.slice 5, 1, 24, [.slice none 0 0]⟩
theorem rowOk123 : RowOk Try.prog 123 row123 := rowOk_mk Try.underlying123 (.slice none 0 0) (by kernel_rfl) rfl (fun h => by cases h) rfl rfl (fun _ => rfl)
def row124 : Row := ⟨.slice 4, 1, 24, [.slice none 0 0]⟩
theorem rowOk124 : RowOk Try.prog 124 row124 := rowOk_mk Try.underlying124 (.slice none 0 0) (by kernel_rfl) rfl (fun h => by cases h) rfl rfl (fun _ => rfl)
def row125 : Row := ⟨.other, 1, 8, [.nilFunc]⟩
theorem rowOk125 : RowOk Try.prog 125 row125 := rowOk_mk ⟨_, Try.underlying125, rfl⟩ (.nilFunc) (by kernel_rfl) rfl (fun h => by cases h) rfl rfl (fun _ => rfl)
def row131 : Row := ⟨.int .u32, 1, 4, [.int .u32 0]⟩
theorem rowOk131 : RowOk Try.prog 131 row131 := rowOk_mk Try.underlying131 (.int .u32 0) (by kernel_rfl) rfl (fun h => by cases h) rfl rfl (fun _ => rfl)
def row132 : Row := ⟨.int .u8, 1, 1, [.int .u8 0]⟩
theorem rowOk132 : RowOk Try.prog 132 row132 := rowOk_mk Try.underlying132 (.int .u8 0) (by kernel_rfl) rfl (fun h => by cases h) rfl rfl (fun _ => rfl)
def row133 : Row := ⟨.int .u8, 1, 1, [.int .u8 0]⟩
theorem rowOk133 : RowOk Try.prog 133 row133 := rowOk_mk Try.underlying133 (.int .u8 0) (by kernel_rfl) rfl (fun h => by cases h) rfl rfl (fun _ => rfl)
def row134 : Row := ⟨.other, 1, 8, [.nilFunc]⟩
theorem rowOk134 : RowOk Try.prog 134 row134 := rowOk_mk ⟨_, Try.underlying134, rfl⟩ (.nilFunc) (by kernel_rfl) rfl (fun h => by cases h) rfl rfl (fun _ => rfl)
def row135 : Row := ⟨.other, 1, 8, [.pointer none]⟩
theorem rowOk135 : RowOk Try.prog 135 row135 := rowOk_mk ⟨_, Try.underlying135, rfl⟩ (.pointer none) (by kernel_rfl) rfl (fun h => by cases h) rfl rfl (fun _ => rfl)
def row136 : Row := ⟨.int .i32, 1, 4, [.int .i32 0]⟩
theorem rowOk136 : RowOk Try.prog 136 row136 := rowOk_mk Try.underlying136 (.int .i32 0) (by kernel_rfl) rfl (fun h => by cases h) rfl rfl (fun _ => rfl)
def row137 : Row := ⟨.int .i32, 1, 4, [.int .i32 0]⟩
theorem rowOk137 : RowOk Try.prog 137 row137 := rowOk_mk Try.underlying137 (.int .i32 0) (by kernel_rfl) rfl (fun h => by cases h) rfl rfl (fun _ => rfl)
def AllOk : List (Nat × Row) → Prop
  | [] => True
  | p :: l => RowOk Try.prog p.1 p.2 ∧ AllOk l
theorem allOk_mem : ∀ {l : List (Nat × Row)}, AllOk l → ∀ p, p ∈ l → RowOk Try.prog p.1 p.2
  | [], _, _, h => by cases h
  | q :: l, k, p, h => (List.mem_cons.1 h).elim (fun e => e ▸ k.1) fun h => allOk_mem k.2 p h
theorem allOk_app : ∀ {l l' : List (Nat × Row)}, AllOk l → AllOk l' → AllOk (l ++ l')
  | [], _, _, h => h
  | _ :: _, _, h, k => ⟨h.1, allOk_app h.2 k⟩
def tab0 : List (Nat × Row) := [(1, row1), (2, row2), (3, row3), (4, row4), (5, row5), (6, row6), (7, row7), (8, row8), (9, row9), (10, row10), (11, row11), (12, row12), (13, row13), (14, row14), (15, row15), (16, row16), (17, row17), (18, row18), (19, row19), (20, row20)]
theorem tabOk0 : AllOk tab0 := ⟨rowOk1, rowOk2, rowOk3, rowOk4, rowOk5, rowOk6, rowOk7, rowOk8, rowOk9, rowOk10, rowOk11, rowOk12, rowOk13, rowOk14, rowOk15, rowOk16, rowOk17, rowOk18, rowOk19, rowOk20, trivial⟩
def tab1 : List (Nat × Row) := [(21, row21), (22, row22), (23, row23), (24, row24), (25, row25), (26, row26), (27, row27), (28, row28), (29, row29), (30, row30), (31, row31), (32, row32), (33, row33), (34, row34), (35, row35), (36, row36), (37, row37), (38, row38), (39, row39), (40, row40)]
theorem tabOk1 : AllOk tab1 := ⟨rowOk21, rowOk22, rowOk23, rowOk24, rowOk25, rowOk26, rowOk27, rowOk28, rowOk29, rowOk30, rowOk31, rowOk32, rowOk33, rowOk34, rowOk35, rowOk36, rowOk37, rowOk38, rowOk39, rowOk40, trivial⟩
def tab2 : List (Nat × Row) := [(41, row41), (42, row42), (43, row43), (44, row44), (45, row45), (46, row46), (47, row47), (48, row48), (49, row49), (50, row50), (51, row51), (52, row52), (53, row53), (54, row54), (55, row55), (56, row56), (57, row57), (58, row58), (59, row59), (60, row60)]
theorem tabOk2 : AllOk tab2 := ⟨rowOk41, rowOk42, rowOk43, rowOk44, rowOk45, rowOk46, rowOk47, rowOk48, rowOk49, rowOk50, rowOk51, rowOk52, rowOk53, rowOk54, rowOk55, rowOk56, rowOk57, rowOk58, rowOk59, rowOk60, trivial⟩
def tab3 : List (Nat × Row) := [(61, row61), (62, row62), (63, row63), (64, row64), (65, row65), (66, row66), (67, row67), (68, row68), (69, row69), (70, row70), (71, row71), (72, row72), (73, row73), (74, row74), (75, row75), (76, row76), (77, row77), (79, row79), (80, row80), (82, row82)]
theorem tabOk3 : AllOk tab3 := ⟨rowOk61, rowOk62, rowOk63, rowOk64, rowOk65, rowOk66, rowOk67, rowOk68, rowOk69, rowOk70, rowOk71, rowOk72, rowOk73, rowOk74, rowOk75, rowOk76, rowOk77, rowOk79, rowOk80, rowOk82, trivial⟩
def tab4 : List (Nat × Row) := [(83, row83), (84, row84), (85, row85), (86, row86), (87, row87), (88, row88), (89, row89), (90, row90), (91, row91), (92, row92), (93, row93), (94, row94), (95, row95), (96, row96), (97, row97), (98, row98), (99, row99), (100, row100), (101, row101), (102, row102)]
theorem tabOk4 : AllOk tab4 := ⟨rowOk83, rowOk84, rowOk85, rowOk86, rowOk87, rowOk88, rowOk89, rowOk90, rowOk91, rowOk92, rowOk93, rowOk94, rowOk95, rowOk96, rowOk97, rowOk98, rowOk99, rowOk100, rowOk101, rowOk102, trivial⟩
def tab5 : List (Nat × Row) := [(103, row103), (104, row104), (105, row105), (106, row106), (107, row107), (108, row108), (109, row109), (110, row110), (111, row111), (112, row112), (113, row113), (114, row114), (115, row115), (116, row116), (117, row117), (118, row118), (119, row119), (120, row120), (121, row121), (122, row122)]
theorem tabOk5 : AllOk tab5 := ⟨rowOk103, rowOk104, rowOk105, rowOk106, rowOk107, rowOk108, rowOk109, rowOk110, rowOk111, rowOk112, rowOk113, rowOk114, rowOk115, rowOk116, rowOk117, rowOk118, rowOk119, rowOk120, rowOk121, rowOk122, trivial⟩
def tab6 : List (Nat × Row) := [(123, row123), (124, row124), (125, row125), (131, row131), (132, row132), (133, row133), (134, row134), (135, row135), (136, row136), (137, row137)]
theorem tabOk6 : AllOk tab6 := ⟨rowOk123, rowOk124, rowOk125, rowOk131, rowOk132, rowOk133, rowOk134, rowOk135, rowOk136, rowOk137, trivial⟩
def tab : List (Nat × Row) := tab0 ++ (tab1 ++ (tab2 ++ (tab3 ++ (tab4 ++ (tab5 ++ (tab6))))))
def Γ (t : Nat) : Option Row := look t tab
theorem tabOk : TabOk Try.prog Γ := fun t r h => allOk_mem (show AllOk tab from (allOk_app tabOk0 (allOk_app tabOk1 (allOk_app tabOk2 (allOk_app tabOk3 (allOk_app tabOk4 (allOk_app tabOk5 tabOk6))))))) _ (look_mem h)
@[go_sem] theorem Γ1 : Γ 1 = some ⟨.other, 1, 8, [.nilFunc]⟩ := by kernel_rfl
@[go_sem] theorem Γ2 : Γ 2 = some ⟨.int .i64, 1, 8, [.int .i64 0]⟩ := by kernel_rfl
@[go_sem] theorem Γ3 : Γ 3 = some ⟨.int .i64, 1, 8, [.int .i64 0]⟩ := by kernel_rfl
@[go_sem] theorem Γ4 : Γ 4 = some ⟨.bool, 1, 1, [.bool false]⟩ := by kernel_rfl
@[go_sem] theorem Γ5 : Γ 5 = some ⟨.int .u8, 1, 1, [.int .u8 0]⟩ := by kernel_rfl
@[go_sem] theorem Γ6 : Γ 6 = some ⟨.int .u8, 1, 1, [.int .u8 0]⟩ := by kernel_rfl
@[go_sem] theorem Γ7 : Γ 7 = some ⟨.struct [(0, 2), (1, 3), (2, 4), (3, 6)], 4, 24, [.int .i64 0, .int .i64 0, .bool false, .int .u8 0]⟩ := by kernel_rfl
@[go_sem] theorem Γ8 : Γ 8 = some ⟨.struct [(0, 2), (1, 3), (2, 4), (3, 6)], 4, 24, [.int .i64 0, .int .i64 0, .bool false, .int .u8 0]⟩ := by kernel_rfl
@[go_sem] theorem Γ9 : Γ 9 = some ⟨.str, 1, 16, [.string ⟨#[]⟩]⟩ := by kernel_rfl
@[go_sem] theorem Γ10 : Γ 10 = some ⟨.str, 1, 16, [.string ⟨#[]⟩]⟩ := by kernel_rfl
@[go_sem] theorem Γ11 : Γ 11 = some ⟨.str, 1, 16, [.string ⟨#[]⟩]⟩ := by kernel_rfl
@[go_sem] theorem Γ12 : Γ 12 = some ⟨.int .u64, 1, 8, [.int .u64 0]⟩ := by kernel_rfl
@[go_sem] theorem Γ13 : Γ 13 = some ⟨.struct [(0, 9), (1, 12)], 2, 24, [.string ⟨#[]⟩, .int .u64 0]⟩ := by kernel_rfl
@[go_sem] theorem Γ14 : Γ 14 = some ⟨.struct [(0, 9), (1, 12)], 2, 24, [.string ⟨#[]⟩, .int .u64 0]⟩ := by kernel_rfl
@[go_sem] theorem Γ15 : Γ 15 = some ⟨.other, 1, 8, [.pointer none]⟩ := by kernel_rfl
@[go_sem] theorem Γ16 : Γ 16 = some ⟨.other, 1, 8, [.pointer none]⟩ := by kernel_rfl
@[go_sem] theorem Γ17 : Γ 17 = some ⟨.other, 1, 8, [.pointer none]⟩ := by kernel_rfl
@[go_sem] theorem Γ18 : Γ 18 = some ⟨.struct [(0, 17)], 1, 8, [.pointer none]⟩ := by kernel_rfl
@[go_sem] theorem Γ19 : Γ 19 = some ⟨.struct [(0, 17)], 1, 8, [.pointer none]⟩ := by kernel_rfl
@[go_sem] theorem Γ20 : Γ 20 = some ⟨.other, 1, 16, [.nilIface]⟩ := by kernel_rfl
@[go_sem] theorem Γ21 : Γ 21 = some ⟨.int .i32, 1, 4, [.int .i32 0]⟩ := by kernel_rfl
@[go_sem] theorem Γ22 : Γ 22 = some ⟨.struct [(0, 3), (1, 3), (2, 3), (3, 9), (4, 9), (5, 9)], 6, 72, [.int .i64 0, .int .i64 0, .int .i64 0, .string ⟨#[]⟩, .string ⟨#[]⟩, .string ⟨#[]⟩]⟩ := by kernel_rfl
@[go_sem] theorem Γ23 : Γ 23 = some ⟨.struct [(0, 3), (1, 3), (2, 3), (3, 9), (4, 9), (5, 9)], 6, 72, [.int .i64 0, .int .i64 0, .int .i64 0, .string ⟨#[]⟩, .string ⟨#[]⟩, .string ⟨#[]⟩]⟩ := by kernel_rfl
@[go_sem] theorem Γ24 : Γ 24 = some ⟨.struct [(0, 3), (1, 3), (2, 3), (3, 3), (4, 3), (5, 3), (6, 3), (7, 23)], 13, 128, [.int .i64 0, .int .i64 0, .int .i64 0, .int .i64 0, .int .i64 0, .int .i64 0, .int .i64 0, .int .i64 0, .int .i64 0, .int .i64 0, .string ⟨#[]⟩, .string ⟨#[]⟩, .string ⟨#[]⟩]⟩ := by kernel_rfl
@[go_sem] theorem Γ25 : Γ 25 = some ⟨.struct [(0, 3), (1, 3), (2, 3), (3, 3), (4, 3), (5, 3), (6, 3), (7, 23)], 13, 128, [.int .i64 0, .int .i64 0, .int .i64 0, .int .i64 0, .int .i64 0, .int .i64 0, .int .i64 0, .int .i64 0, .int .i64 0, .int .i64 0, .string ⟨#[]⟩, .string ⟨#[]⟩, .string ⟨#[]⟩]⟩ := by kernel_rfl
@[go_sem] theorem Γ26 : Γ 26 = some ⟨.struct [(0, 3), (1, 3), (2, 3), (3, 3), (4, 9), (5, 3)], 6, 56, [.int .i64 0, .int .i64 0, .int .i64 0, .int .i64 0, .string ⟨#[]⟩, .int .i64 0]⟩ := by kernel_rfl
@[go_sem] theorem Γ27 : Γ 27 = some ⟨.struct [(0, 3), (1, 3), (2, 3), (3, 3), (4, 9), (5, 3)], 6, 56, [.int .i64 0, .int .i64 0, .int .i64 0, .int .i64 0, .string ⟨#[]⟩, .int .i64 0]⟩ := by kernel_rfl
@[go_sem] theorem Γ28 : Γ 28 = some ⟨.struct [(0, 3), (1, 23), (7, 27)], 13, 136, [.int .i64 0, .int .i64 0, .int .i64 0, .int .i64 0, .string ⟨#[]⟩, .string ⟨#[]⟩, .string ⟨#[]⟩, .int .i64 0, .int .i64 0, .int .i64 0, .int .i64 0, .string ⟨#[]⟩, .int .i64 0]⟩ := by kernel_rfl
@[go_sem] theorem Γ29 : Γ 29 = some ⟨.struct [(0, 3), (1, 23), (7, 27)], 13, 136, [.int .i64 0, .int .i64 0, .int .i64 0, .int .i64 0, .string ⟨#[]⟩, .string ⟨#[]⟩, .string ⟨#[]⟩, .int .i64 0, .int .i64 0, .int .i64 0, .int .i64 0, .string ⟨#[]⟩, .int .i64 0]⟩ := by kernel_rfl
@[go_sem] theorem Γ30 : Γ 30 = some ⟨.other, 1, 8, [.nilFunc]⟩ := by kernel_rfl
@[go_sem] theorem Γ31 : Γ 31 = some ⟨.other, 1, 8, [.nilFunc]⟩ := by kernel_rfl
@[go_sem] theorem Γ32 : Γ 32 = some ⟨.struct [(0, 3), (1, 3), (2, 3), (3, 9), (4, 9), (5, 9)], 6, 72, [.int .i64 0, .int .i64 0, .int .i64 0, .string ⟨#[]⟩, .string ⟨#[]⟩, .string ⟨#[]⟩]⟩ := by kernel_rfl
@[go_sem] theorem Γ33 : Γ 33 = some ⟨.struct [(0, 3), (1, 3), (2, 3), (3, 3), (4, 3), (5, 3), (6, 3), (7, 32)], 13, 128, [.int .i64 0, .int .i64 0, .int .i64 0, .int .i64 0, .int .i64 0, .int .i64 0, .int .i64 0, .int .i64 0, .int .i64 0, .int .i64 0, .string ⟨#[]⟩, .string ⟨#[]⟩, .string ⟨#[]⟩]⟩ := by kernel_rfl
@[go_sem] theorem Γ34 : Γ 34 = some ⟨.struct [(0, 3), (1, 3), (2, 3), (3, 3), (4, 3), (5, 3), (6, 3), (7, 32)], 13, 128, [.int .i64 0, .int .i64 0, .int .i64 0, .int .i64 0, .int .i64 0, .int .i64 0, .int .i64 0, .int .i64 0, .int .i64 0, .int .i64 0, .string ⟨#[]⟩, .string ⟨#[]⟩, .string ⟨#[]⟩]⟩ := by kernel_rfl
@[go_sem] theorem Γ35 : Γ 35 = some ⟨.struct [(0, 3), (1, 3), (2, 3), (3, 34)], 16, 152, [.int .i64 0, .int .i64 0, .int .i64 0, .int .i64 0, .int .i64 0, .int .i64 0, .int .i64 0, .int .i64 0, .int .i64 0, .int .i64 0, .int .i64 0, .int .i64 0, .int .i64 0, .string ⟨#[]⟩, .string ⟨#[]⟩, .string ⟨#[]⟩]⟩ := by kernel_rfl
@[go_sem] theorem Γ36 : Γ 36 = some ⟨.struct [(0, 3), (1, 3), (2, 3), (3, 34)], 16, 152, [.int .i64 0, .int .i64 0, .int .i64 0, .int .i64 0, .int .i64 0, .int .i64 0, .int .i64 0, .int .i64 0, .int .i64 0, .int .i64 0, .int .i64 0, .int .i64 0, .int .i64 0, .string ⟨#[]⟩, .string ⟨#[]⟩, .string ⟨#[]⟩]⟩ := by kernel_rfl
@[go_sem] theorem Γ37 : Γ 37 = some ⟨.other, 1, 8, [.nilFunc]⟩ := by kernel_rfl
@[go_sem] theorem Γ38 : Γ 38 = some ⟨.other, 1, 8, [.nilFunc]⟩ := by kernel_rfl
@[go_sem] theorem Γ39 : Γ 39 = some ⟨.struct [(0, 3), (1, 3), (2, 3), (3, 3), (4, 9), (5, 3)], 6, 56, [.int .i64 0, .int .i64 0, .int .i64 0, .int .i64 0, .string ⟨#[]⟩, .int .i64 0]⟩ := by kernel_rfl
@[go_sem] theorem Γ40 : Γ 40 = some ⟨.struct [(0, 3), (1, 32), (7, 39)], 13, 136, [.int .i64 0, .int .i64 0, .int .i64 0, .int .i64 0, .string ⟨#[]⟩, .string ⟨#[]⟩, .string ⟨#[]⟩, .int .i64 0, .int .i64 0, .int .i64 0, .int .i64 0, .string ⟨#[]⟩, .int .i64 0]⟩ := by kernel_rfl
@[go_sem] theorem Γ41 : Γ 41 = some ⟨.struct [(0, 3), (1, 32), (7, 39)], 13, 136, [.int .i64 0, .int .i64 0, .int .i64 0, .int .i64 0, .string ⟨#[]⟩, .string ⟨#[]⟩, .string ⟨#[]⟩, .int .i64 0, .int .i64 0, .int .i64 0, .int .i64 0, .string ⟨#[]⟩, .int .i64 0]⟩ := by kernel_rfl
@[go_sem] theorem Γ42 : Γ 42 = some ⟨.other, 1, 8, [.nilFunc]⟩ := by kernel_rfl
@[go_sem] theorem Γ43 : Γ 43 = some ⟨.other, 1, 8, [.nilFunc]⟩ := by kernel_rfl
@[go_sem] theorem Γ44 : Γ 44 = some ⟨.other, 1, 8, [.nilFunc]⟩ := by kernel_rfl
@[go_sem] theorem Γ45 : Γ 45 = some ⟨.slice 114, 1, 24, [.slice none 0 0]⟩ := by kernel_rfl
@[go_sem] theorem Γ46 : Γ 46 = some ⟨.struct [(0, 3), (1, 3), (2, 45)], 3, 40, [.int .i64 0, .int .i64 0, .slice none 0 0]⟩ := by kernel_rfl
@[go_sem] theorem Γ47 : Γ 47 = some ⟨.struct [(0, 3), (1, 3), (2, 45)], 3, 40, [.int .i64 0, .int .i64 0, .slice none 0 0]⟩ := by kernel_rfl
@[go_sem] theorem Γ48 : Γ 48 = some ⟨.other, 1, 8, [.nilFunc]⟩ := by kernel_rfl
@[go_sem] theorem Γ49 : Γ 49 = some ⟨.slice 89, 1, 24, [.slice none 0 0]⟩ := by kernel_rfl
@[go_sem] theorem Γ50 : Γ 50 = some ⟨.struct [(0, 3), (1, 49)], 2, 32, [.int .i64 0, .slice none 0 0]⟩ := by kernel_rfl
@[go_sem] theorem Γ51 : Γ 51 = some ⟨.struct [(0, 3), (1, 49)], 2, 32, [.int .i64 0, .slice none 0 0]⟩ := by kernel_rfl
@[go_sem] theorem Γ52 : Γ 52 = some ⟨.other, 1, 8, [.nilFunc]⟩ := by kernel_rfl
@[go_sem] theorem Γ53 : Γ 53 = some ⟨.slice 87, 1, 24, [.slice none 0 0]⟩ := by kernel_rfl
@[go_sem] theorem Γ54 : Γ 54 = some ⟨.struct [(0, 3), (1, 3), (2, 53)], 3, 40, [.int .i64 0, .int .i64 0, .slice none 0 0]⟩ := by kernel_rfl
@[go_sem] theorem Γ55 : Γ 55 = some ⟨.struct [(0, 3), (1, 3), (2, 53)], 3, 40, [.int .i64 0, .int .i64 0, .slice none 0 0]⟩ := by kernel_rfl
@[go_sem] theorem Γ56 : Γ 56 = some ⟨.other, 1, 8, [.nilFunc]⟩ := by kernel_rfl
@[go_sem] theorem Γ57 : Γ 57 = some ⟨.other, 1, 8, [.nilFunc]⟩ := by kernel_rfl
@[go_sem] theorem Γ58 : Γ 58 = some ⟨.other, 1, 8, [.nilFunc]⟩ := by kernel_rfl
@[go_sem] theorem Γ59 : Γ 59 = some ⟨.other, 1, 8, [.nilFunc]⟩ := by kernel_rfl
@[go_sem] theorem Γ60 : Γ 60 = some ⟨.other, 1, 8, [.nilFunc]⟩ := by kernel_rfl
@[go_sem] theorem Γ61 : Γ 61 = some ⟨.other, 1, 8, [.nilFunc]⟩ := by kernel_rfl
@[go_sem] theorem Γ62 : Γ 62 = some ⟨.slice 3, 1, 24, [.slice none 0 0]⟩ := by kernel_rfl
@[go_sem] theorem Γ63 : Γ 63 = some ⟨.struct [(0, 3), (1, 3), (2, 3), (3, 3), (4, 3), (5, 3), (6, 3), (7, 3), (8, 3), (9, 3), (10, 3), (11, 3), (12, 53), (13, 62), (14, 62), (15, 62), (16, 62), (17, 62)], 18, 240, [.int .i64 0, .int .i64 0, .int .i64 0, .int .i64 0, .int .i64 0, .int .i64 0, .int .i64 0, .int .i64 0, .int .i64 0, .int .i64 0, .int .i64 0, .int .i64 0, .slice none 0 0, .slice none 0 0, .slice none 0 0, .slice none 0 0, .slice none 0 0, .slice none 0 0]⟩ := by kernel_rfl
@[go_sem] theorem Γ64 : Γ 64 = some ⟨.struct [(0, 3), (1, 3), (2, 3), (3, 3), (4, 3), (5, 3), (6, 3), (7, 3), (8, 3), (9, 3), (10, 3), (11, 3), (12, 53), (13, 62), (14, 62), (15, 62), (16, 62), (17, 62)], 18, 240, [.int .i64 0, .int .i64 0, .int .i64 0, .int .i64 0, .int .i64 0, .int .i64 0, .int .i64 0, .int .i64 0, .int .i64 0, .int .i64 0, .int .i64 0, .int .i64 0, .slice none 0 0, .slice none 0 0, .slice none 0 0, .slice none 0 0, .slice none 0 0, .slice none 0 0]⟩ := by kernel_rfl
@[go_sem] theorem Γ65 : Γ 65 = some ⟨.other, 1, 8, [.nilFunc]⟩ := by kernel_rfl
@[go_sem] theorem Γ66 : Γ 66 = some ⟨.other, 1, 8, [.nilFunc]⟩ := by kernel_rfl
@[go_sem] theorem Γ67 : Γ 67 = some ⟨.other, 1, 8, [.nilFunc]⟩ := by kernel_rfl
@[go_sem] theorem Γ68 : Γ 68 = some ⟨.other, 1, 8, [.nilFunc]⟩ := by kernel_rfl
@[go_sem] theorem Γ69 : Γ 69 = some ⟨.other, 1, 8, [.nilFunc]⟩ := by kernel_rfl
@[go_sem] theorem Γ70 : Γ 70 = some ⟨.other, 1, 8, [.nilFunc]⟩ := by kernel_rfl
@[go_sem] theorem Γ71 : Γ 71 = some ⟨.other, 1, 8, [.nilFunc]⟩ := by kernel_rfl
@[go_sem] theorem Γ72 : Γ 72 = some ⟨.other, 1, 8, [.nilFunc]⟩ := by kernel_rfl
@[go_sem] theorem Γ73 : Γ 73 = some ⟨.other, 1, 8, [.nilFunc]⟩ := by kernel_rfl
@[go_sem] theorem Γ74 : Γ 74 = some ⟨.other, 1, 8, [.nilFunc]⟩ := by kernel_rfl
@[go_sem] theorem Γ75 : Γ 75 = some ⟨.other, 1, 8, [.nilFunc]⟩ := by kernel_rfl
@[go_sem] theorem Γ76 : Γ 76 = some ⟨.other, 1, 8, [.nilFunc]⟩ := by kernel_rfl
@[go_sem] theorem Γ77 : Γ 77 = some ⟨.other, 1, 8, [.nilFunc]⟩ := by kernel_rfl
@[go_sem] theorem Γ79 : Γ 79 = some ⟨.other, 1, 8, [.nilFunc]⟩ := by kernel_rfl
@[go_sem] theorem Γ80 : Γ 80 = some ⟨.other, 1, 8, [.nilFunc]⟩ := by kernel_rfl
@[go_sem] theorem Γ82 : Γ 82 = some ⟨.other, 1, 8, [.nilFunc]⟩ := by kernel_rfl
@[go_sem] theorem Γ83 : Γ 83 = some ⟨.other, 1, 8, [.nilFunc]⟩ := by kernel_rfl
@[go_sem] theorem Γ84 : Γ 84 = some ⟨.other, 1, 8, [.nilFunc]⟩ := by kernel_rfl
@[go_sem] theorem Γ85 : Γ 85 = some ⟨.other, 1, 8, [.nilFunc]⟩ := by kernel_rfl
@[go_sem] theorem Γ86 : Γ 86 = some ⟨.struct [(0, 3), (1, 32)], 7, 80, [.int .i64 0, .int .i64 0, .int .i64 0, .int .i64 0, .string ⟨#[]⟩, .string ⟨#[]⟩, .string ⟨#[]⟩]⟩ := by kernel_rfl
@[go_sem] theorem Γ87 : Γ 87 = some ⟨.struct [(0, 3), (1, 32)], 7, 80, [.int .i64 0, .int .i64 0, .int .i64 0, .int .i64 0, .string ⟨#[]⟩, .string ⟨#[]⟩, .string ⟨#[]⟩]⟩ := by kernel_rfl
@[go_sem] theorem Γ88 : Γ 88 = some ⟨.struct [(0, 3), (1, 3), (2, 3), (3, 3), (4, 87)], 11, 112, [.int .i64 0, .int .i64 0, .int .i64 0, .int .i64 0, .int .i64 0, .int .i64 0, .int .i64 0, .int .i64 0, .string ⟨#[]⟩, .string ⟨#[]⟩, .string ⟨#[]⟩]⟩ := by kernel_rfl
@[go_sem] theorem Γ89 : Γ 89 = some ⟨.struct [(0, 3), (1, 3), (2, 3), (3, 3), (4, 87)], 11, 112, [.int .i64 0, .int .i64 0, .int .i64 0, .int .i64 0, .int .i64 0, .int .i64 0, .int .i64 0, .int .i64 0, .string ⟨#[]⟩, .string ⟨#[]⟩, .string ⟨#[]⟩]⟩ := by kernel_rfl
@[go_sem] theorem Γ90 : Γ 90 = some ⟨.other, 1, 8, [.nilFunc]⟩ := by kernel_rfl
@[go_sem] theorem Γ91 : Γ 91 = some ⟨.other, 1, 8, [.nilFunc]⟩ := by kernel_rfl
@[go_sem] theorem Γ92 : Γ 92 = some ⟨.other, 1, 8, [.nilFunc]⟩ := by kernel_rfl
@[go_sem] theorem Γ93 : Γ 93 = some ⟨.other, 1, 8, [.nilFunc]⟩ := by kernel_rfl
@[go_sem] theorem Γ94 : Γ 94 = some ⟨.other, 1, 8, [.nilFunc]⟩ := by kernel_rfl
@[go_sem] theorem Γ95 : Γ 95 = some ⟨.other, 1, 8, [.nilFunc]⟩ := by kernel_rfl
@[go_sem] theorem Γ96 : Γ 96 = some ⟨.other, 1, 8, [.nilFunc]⟩ := by kernel_rfl
@[go_sem] theorem Γ97 : Γ 97 = some ⟨.other, 1, 8, [.nilFunc]⟩ := by kernel_rfl
@[go_sem] theorem Γ98 : Γ 98 = some ⟨.other, 1, 8, [.nilFunc]⟩ := by kernel_rfl
@[go_sem] theorem Γ99 : Γ 99 = some ⟨.other, 1, 8, [.nilFunc]⟩ := by kernel_rfl
@[go_sem] theorem Γ100 : Γ 100 = some ⟨.other, 1, 8, [.nilFunc]⟩ := by kernel_rfl
@[go_sem] theorem Γ101 : Γ 101 = some ⟨.other, 1, 8, [.nilFunc]⟩ := by kernel_rfl
@[go_sem] theorem Γ102 : Γ 102 = some ⟨.other, 1, 8, [.nilFunc]⟩ := by kernel_rfl
@[go_sem] theorem Γ103 : Γ 103 = some ⟨.other, 1, 8, [.nilFunc]⟩ := by kernel_rfl
@[go_sem] theorem Γ104 : Γ 104 = some ⟨.other, 1, 8, [.nilFunc]⟩ := by kernel_rfl
@[go_sem] theorem Γ105 : Γ 105 = some ⟨.other, 1, 8, [.nilFunc]⟩ := by kernel_rfl
@[go_sem] theorem Γ106 : Γ 106 = some ⟨.other, 1, 8, [.pointer none]⟩ := by kernel_rfl
@[go_sem] theorem Γ107 : Γ 107 = some ⟨.other, 1, 8, [.pointer none]⟩ := by kernel_rfl
@[go_sem] theorem Γ108 : Γ 108 = some ⟨.struct [(0, 39)], 6, 56, [.int .i64 0, .int .i64 0, .int .i64 0, .int .i64 0, .string ⟨#[]⟩, .int .i64 0]⟩ := by kernel_rfl
@[go_sem] theorem Γ109 : Γ 109 = some ⟨.struct [(0, 39)], 6, 56, [.int .i64 0, .int .i64 0, .int .i64 0, .int .i64 0, .string ⟨#[]⟩, .int .i64 0]⟩ := by kernel_rfl
@[go_sem] theorem Γ110 : Γ 110 = some ⟨.other, 1, 8, [.nilFunc]⟩ := by kernel_rfl
@[go_sem] theorem Γ111 : Γ 111 = some ⟨.other, 1, 8, [.nilFunc]⟩ := by kernel_rfl
@[go_sem] theorem Γ112 : Γ 112 = some ⟨.other, 1, 8, [.nilFunc]⟩ := by kernel_rfl
@[go_sem] theorem Γ113 : Γ 113 = some ⟨.struct [(0, 3), (1, 23)], 7, 80, [.int .i64 0, .int .i64 0, .int .i64 0, .int .i64 0, .string ⟨#[]⟩, .string ⟨#[]⟩, .string ⟨#[]⟩]⟩ := by kernel_rfl
@[go_sem] theorem Γ114 : Γ 114 = some ⟨.struct [(0, 3), (1, 23)], 7, 80, [.int .i64 0, .int .i64 0, .int .i64 0, .int .i64 0, .string ⟨#[]⟩, .string ⟨#[]⟩, .string ⟨#[]⟩]⟩ := by kernel_rfl
@[go_sem] theorem Γ115 : Γ 115 = some ⟨.other, 1, 8, [.nilFunc]⟩ := by kernel_rfl
@[go_sem] theorem Γ116 : Γ 116 = some ⟨.other, 1, 8, [.nilFunc]⟩ := by kernel_rfl
@[go_sem] theorem Γ117 : Γ 117 = some ⟨.other, 1, 8, [.nilFunc]⟩ := by kernel_rfl
@[go_sem] theorem Γ118 : Γ 118 = some ⟨.other, 1, 8, [.nilFunc]⟩ := by kernel_rfl
@[go_sem] theorem Γ119 : Γ 119 = some ⟨.other, 1, 8, [.nilFunc]⟩ := by kernel_rfl
@[go_sem] theorem Γ120 : Γ 120 = some ⟨.other, 1, 8, [.nilFunc]⟩ := by kernel_rfl
@[go_sem] theorem Γ121 : Γ 121 = some ⟨.other, 1, 8, [.nilFunc]⟩ := by kernel_rfl
@[go_sem] theorem Γ122 : Γ 122 = some ⟨.other, 1, 8, [.nilFunc]⟩ := by kernel_rfl
@[go_sem] theorem Γ123 : Γ 123 = some ⟨.slice 5, 1, 24, [.slice none 0 0]⟩ := by kernel_rfl
@[go_sem] theorem Γ124 : Γ 124 = some ⟨.slice 4, 1, 24, [.slice none 0 0]⟩ := by kernel_rfl
@[go_sem] theorem Γ125 : Γ 125 = some ⟨.other, 1, 8, [.nilFunc]⟩ := by kernel_rfl
@[go_sem] theorem Γ131 : Γ 131 = some ⟨.int .u32, 1, 4, [.int .u32 0]⟩ := by kernel_rfl
@[go_sem] theorem Γ132 : Γ 132 = some ⟨.int .u8, 1, 1, [.int .u8 0]⟩ := by kernel_rfl
@[go_sem] theorem Γ133 : Γ 133 = some ⟨.int .u8, 1, 1, [.int .u8 0]⟩ := by kernel_rfl
@[go_sem] theorem Γ134 : Γ 134 = some ⟨.other, 1, 8, [.nilFunc]⟩ := by kernel_rfl
@[go_sem] theorem Γ135 : Γ 135 = some ⟨.other, 1, 8, [.pointer none]⟩ := by kernel_rfl
@[go_sem] theorem Γ136 : Γ 136 = some ⟨.int .i32, 1, 4, [.int .i32 0]⟩ := by kernel_rfl
@[go_sem] theorem Γ137 : Γ 137 = some ⟨.int .i32, 1, 4, [.int .i32 0]⟩ := by kernel_rfl
theorem eqTy_mk {P : Program} {t : Nat} {fs : Array Field} (hu : P.underlying t = some (.struct fs)) (h1 : fs.toList.all (fun f => !(f.name == "_")) = true) (h2 : (!P.stoodInHeld t && !P.eqGuardType P.depth t) = true) : EqTyOk P t := by
  simp only [Bool.and_eq_true, Bool.not_eq_true'] at h2
  refine .inl ⟨fs, hu, fun f hf he => ?_, h2.1, h2.2⟩
  have := List.all_eq_true.1 h1 f hf
  rw [he] at this
  cases this
theorem eqAr_mk {P : Program} {t n e : Nat} (hu : P.underlying t = some (.array n e)) (h2 : (!P.eqGuardType P.depth t) = true) : EqTyOk P t := .inr ⟨n, e, hu, by simpa using h2⟩
theorem eqTyOk23 : EqTyOk Try.prog 23 := eqTy_mk Try.underlying23 (by kernel_rfl) (by kernel_rfl)
theorem eqTyOk27 : EqTyOk Try.prog 27 := eqTy_mk Try.underlying27 (by kernel_rfl) (by kernel_rfl)
theorem eqTyOk32 : EqTyOk Try.prog 32 := eqTy_mk Try.underlying32 (by kernel_rfl) (by kernel_rfl)
theorem eqTyOk39 : EqTyOk Try.prog 39 := eqTy_mk Try.underlying39 (by kernel_rfl) (by kernel_rfl)
theorem eqTyOk24 : EqTyOk Try.prog 24 := eqTy_mk Try.underlying24 (by kernel_rfl) (by kernel_rfl)
theorem eqTyOk25 : EqTyOk Try.prog 25 := eqTy_mk Try.underlying25 (by kernel_rfl) (by kernel_rfl)
theorem eqTyOk28 : EqTyOk Try.prog 28 := eqTy_mk Try.underlying28 (by kernel_rfl) (by kernel_rfl)
theorem eqTyOk29 : EqTyOk Try.prog 29 := eqTy_mk Try.underlying29 (by kernel_rfl) (by kernel_rfl)
theorem eqTyOk33 : EqTyOk Try.prog 33 := eqTy_mk Try.underlying33 (by kernel_rfl) (by kernel_rfl)
theorem eqTyOk34 : EqTyOk Try.prog 34 := eqTy_mk Try.underlying34 (by kernel_rfl) (by kernel_rfl)
theorem eqTyOk40 : EqTyOk Try.prog 40 := eqTy_mk Try.underlying40 (by kernel_rfl) (by kernel_rfl)
theorem eqTyOk41 : EqTyOk Try.prog 41 := eqTy_mk Try.underlying41 (by kernel_rfl) (by kernel_rfl)
theorem eqTyOk86 : EqTyOk Try.prog 86 := eqTy_mk Try.underlying86 (by kernel_rfl) (by kernel_rfl)
theorem eqTyOk87 : EqTyOk Try.prog 87 := eqTy_mk Try.underlying87 (by kernel_rfl) (by kernel_rfl)
theorem eqTyOk108 : EqTyOk Try.prog 108 := eqTy_mk Try.underlying108 (by kernel_rfl) (by kernel_rfl)
theorem eqTyOk109 : EqTyOk Try.prog 109 := eqTy_mk Try.underlying109 (by kernel_rfl) (by kernel_rfl)
theorem eqTyOk113 : EqTyOk Try.prog 113 := eqTy_mk Try.underlying113 (by kernel_rfl) (by kernel_rfl)
theorem eqTyOk114 : EqTyOk Try.prog 114 := eqTy_mk Try.underlying114 (by kernel_rfl) (by kernel_rfl)
def eqTyL : List Nat := [23, 27, 32, 39, 24, 25, 28, 29, 33, 34, 40, 41, 86, 87, 108, 109, 113, 114]
theorem eqTyLOk : ∀ t, t ∈ eqTyL → EqTyOk Try.prog t := by
  intro t h
  simp only [eqTyL, List.mem_cons, List.not_mem_nil, or_false] at h
  rcases h with rfl | rfl | rfl | rfl | rfl | rfl | rfl | rfl | rfl | rfl | rfl | rfl | rfl | rfl | rfl | rfl | rfl | rfl
  · exact eqTyOk23
  · exact eqTyOk27
  · exact eqTyOk32
  · exact eqTyOk39
  · exact eqTyOk24
  · exact eqTyOk25
  · exact eqTyOk28
  · exact eqTyOk29
  · exact eqTyOk33
  · exact eqTyOk34
  · exact eqTyOk40
  · exact eqTyOk41
  · exact eqTyOk86
  · exact eqTyOk87
  · exact eqTyOk108
  · exact eqTyOk109
  · exact eqTyOk113
  · exact eqTyOk114
theorem ptr_mk {P : Program} {t e : Nat} (hu : P.underlying t = some (.pointer e)) (h : (P.info? t).map (fun i => i.zero) = some (some (.pointer none))) : PtrOk P t := by
  cases hi : P.info? t with
  | none => rw [hi] at h; cases h
  | some i => rw [hi] at h; exact ⟨e, i, hu, hi, by simpa using h⟩
theorem mth_mk {P : Program} {t e f : Nat} {nm : String} (hu : P.underlying t = some (.pointer e)) (h : ((P.info? t).bind fun i => i.methods.find? (fun m => m.name == nm)).map (fun m => (m.path.toList.isEmpty, m.func)) = some (true, some (f, true))) : MthOk P t nm f := by
  obtain ⟨m, h1, h2⟩ := Option.map_eq_some_iff.1 h
  obtain ⟨i, h3, h4⟩ := Option.bind_eq_some_iff.1 h1
  simp only [Prod.mk.injEq, List.isEmpty_iff] at h2
  exact ⟨e, i, m, hu, h3, h4, h2.1, h2.2⟩
theorem ptrOk106 : PtrOk Try.prog 106 := ptr_mk Try.underlying106 (by kernel_rfl)
theorem ptrOk107 : PtrOk Try.prog 107 := ptr_mk Try.underlying107 (by kernel_rfl)
def ptrL : List Nat := [106, 107]
theorem ptrLOk : ∀ t, t ∈ ptrL → PtrOk Try.prog t := by
  intro t h
  simp only [ptrL, List.mem_cons, List.not_mem_nil, or_false] at h
  rcases h with rfl | rfl
  · exact ptrOk106
  · exact ptrOk107
theorem mthOk0 : MthOk Try.prog 106 "loop.example/s01586/impl.ask" 36 := mth_mk Try.underlying106 (by kernel_rfl)
theorem mthOk1 : MthOk Try.prog 106 "loop.example/s01586/impl.hear" 38 := mth_mk Try.underlying106 (by kernel_rfl)
theorem mthOk2 : MthOk Try.prog 106 "loop.example/s01586/impl.next" 68 := mth_mk Try.underlying106 (by kernel_rfl)
theorem mthOk3 : MthOk Try.prog 106 "loop.example/s01586/impl.poke" 37 := mth_mk Try.underlying106 (by kernel_rfl)
theorem mthOk4 : MthOk Try.prog 107 "loop.example/s01586/impl.fault" 69 := mth_mk Try.underlying107 (by kernel_rfl)
def mthOf (t : Nat) (nm : String) : Option Nat :=
  if t = 106 ∧ nm = "loop.example/s01586/impl.ask" then some 36 else
  if t = 106 ∧ nm = "loop.example/s01586/impl.hear" then some 38 else
  if t = 106 ∧ nm = "loop.example/s01586/impl.next" then some 68 else
  if t = 106 ∧ nm = "loop.example/s01586/impl.poke" then some 37 else
  if t = 107 ∧ nm = "loop.example/s01586/impl.fault" then some 69 else
  none
theorem mthOfOk (t : Nat) (nm : String) (f : Nat) (h : mthOf t nm = some f) : MthOk Try.prog t nm f := by
  unfold mthOf at h
  split at h
  · rename_i e; obtain ⟨rfl, rfl⟩ := e; cases h; exact mthOk0
  split at h
  · rename_i e; obtain ⟨rfl, rfl⟩ := e; cases h; exact mthOk1
  split at h
  · rename_i e; obtain ⟨rfl, rfl⟩ := e; cases h; exact mthOk2
  split at h
  · rename_i e; obtain ⟨rfl, rfl⟩ := e; cases h; exact mthOk3
  split at h
  · rename_i e; obtain ⟨rfl, rfl⟩ := e; cases h; exact mthOk4
  cases h
@[go_sem] theorem mthOf0 : mthOf 106 "loop.example/s01586/impl.ask" = some 36 := by kernel_rfl
@[go_sem] theorem mthOf1 : mthOf 106 "loop.example/s01586/impl.hear" = some 38 := by kernel_rfl
@[go_sem] theorem mthOf2 : mthOf 106 "loop.example/s01586/impl.next" = some 68 := by kernel_rfl
@[go_sem] theorem mthOf3 : mthOf 106 "loop.example/s01586/impl.poke" = some 37 := by kernel_rfl
@[go_sem] theorem mthOf4 : mthOf 107 "loop.example/s01586/impl.fault" = some 69 := by kernel_rfl
def eqTys : Eqs := ⟨eqTyL, ptrL, mthOf⟩
theorem eqTysOk : EqsOk Try.prog eqTys := ⟨eqTyLOk, ptrLOk, mthOfOk⟩
end Go.Proofs.YtaolgdpkcbfocaaA
