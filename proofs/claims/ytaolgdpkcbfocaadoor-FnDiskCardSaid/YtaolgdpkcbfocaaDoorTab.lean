/- The types of this seat, told shortly. -/
import Derived.Test.YtaolgdpkcbfocaaDoorProg
import Derived.Test.YtaolgdpkcbfocaaDoorB3
import Derived.KernelRfl
namespace Go.Proofs.YtaolgdpkcbfocaaDoorA
open Go.Proofs
set_option autoImplicit false
set_option maxRecDepth 10000
theorem rowOk_mk {P : Program} {t : Nat} {r : Row} (hk : kOk P t r.k) (z : Value) (hi : (P.info? t).map (fun i => (i.size, i.bytes, i.zero)) = some (r.size, r.bytes, some z)) (h1 : z.cells.toList = r.zero) (h2 : r.k.isRow = true → z = .agg r.zero.toArray) (h3 : r.zero.length = r.size) (h4 : r.zero.all (·.oneCell') = true) (h5 : r.k.isRow = false → r.size = 1) : RowOk P t r := by
  cases hq : P.info? t with
  | none => rw [hq] at hi; cases hi
  | some i =>
    rw [hq] at hi
    simp only [Option.map_some, Option.some.injEq, Prod.mk.injEq] at hi
    exact ⟨hk, i, hq, hi.1, hi.2.1, ⟨z, hi.2.2, h1, h2⟩, h3, h4, h5⟩
def row1 : Row := ⟨.other, 1, 8, [.nilFunc]⟩
theorem rowOk1 : RowOk Tryd.prog 1 row1 := rowOk_mk ⟨_, Tryd.underlying1, rfl⟩ (.nilFunc) (by kernel_rfl) rfl (fun h => by cases h) rfl rfl (fun _ => rfl)
def row2 : Row := ⟨.int .i64, 1, 8, [.int .i64 0]⟩
theorem rowOk2 : RowOk Tryd.prog 2 row2 := rowOk_mk Tryd.underlying2 (.int .i64 0) (by kernel_rfl) rfl (fun h => by cases h) rfl rfl (fun _ => rfl)
def row3 : Row := ⟨.int .i64, 1, 8, [.int .i64 0]⟩
theorem rowOk3 : RowOk Tryd.prog 3 row3 := rowOk_mk Tryd.underlying3 (.int .i64 0) (by kernel_rfl) rfl (fun h => by cases h) rfl rfl (fun _ => rfl)
def row4 : Row := ⟨.bool, 1, 1, [.bool false]⟩
theorem rowOk4 : RowOk Tryd.prog 4 row4 := rowOk_mk Tryd.underlying4 (.bool false) (by kernel_rfl) rfl (fun h => by cases h) rfl rfl (fun _ => rfl)
def row5 : Row := ⟨.int .u8, 1, 1, [.int .u8 0]⟩
theorem rowOk5 : RowOk Tryd.prog 5 row5 := rowOk_mk Tryd.underlying5 (.int .u8 0) (by kernel_rfl) rfl (fun h => by cases h) rfl rfl (fun _ => rfl)
def row6 : Row := ⟨.int .u8, 1, 1, [.int .u8 0]⟩
theorem rowOk6 : RowOk Tryd.prog 6 row6 := rowOk_mk Tryd.underlying6 (.int .u8 0) (by kernel_rfl) rfl (fun h => by cases h) rfl rfl (fun _ => rfl)
def row7 : Row := ⟨.struct [(0, 2), (1, 3), (2, 4), (3, 6)], 4, 24, [.int .i64 0, .int .i64 0, .bool false, .int .u8 0]⟩
theorem rowOk7 : RowOk Tryd.prog 7 row7 := rowOk_mk ⟨_, Tryd.underlying7, rfl⟩ (.agg #[.int .i64 0, .int .i64 0, .bool false, .int .u8 0]) (by kernel_rfl) rfl (fun _ => rfl) rfl rfl (fun h => by cases h)
def row8 : Row := ⟨.struct [(0, 2), (1, 3), (2, 4), (3, 6)], 4, 24, [.int .i64 0, .int .i64 0, .bool false, .int .u8 0]⟩
theorem rowOk8 : RowOk Tryd.prog 8 row8 := rowOk_mk ⟨_, Tryd.underlying8, rfl⟩ (.agg #[.int .i64 0, .int .i64 0, .bool false, .int .u8 0]) (by kernel_rfl) rfl (fun _ => rfl) rfl rfl (fun h => by cases h)
def row9 : Row := ⟨.str, 1, 16, [.string ⟨#[]⟩]⟩
theorem rowOk9 : RowOk Tryd.prog 9 row9 := rowOk_mk Tryd.underlying9 (.string ⟨#[]⟩) (by kernel_rfl) rfl (fun h => by cases h) rfl rfl (fun _ => rfl)
def row10 : Row := ⟨.str, 1, 16, [.string ⟨#[]⟩]⟩
theorem rowOk10 : RowOk Tryd.prog 10 row10 := rowOk_mk Tryd.underlying10 (.string ⟨#[]⟩) (by kernel_rfl) rfl (fun h => by cases h) rfl rfl (fun _ => rfl)
def row11 : Row := ⟨.str, 1, 16, [.string ⟨#[]⟩]⟩
theorem rowOk11 : RowOk Tryd.prog 11 row11 := rowOk_mk Tryd.underlying11 (.string ⟨#[]⟩) (by kernel_rfl) rfl (fun h => by cases h) rfl rfl (fun _ => rfl)
def row12 : Row := ⟨.int .u64, 1, 8, [.int .u64 0]⟩
theorem rowOk12 : RowOk Tryd.prog 12 row12 := rowOk_mk Tryd.underlying12 (.int .u64 0) (by kernel_rfl) rfl (fun h => by cases h) rfl rfl (fun _ => rfl)
def row13 : Row := ⟨.struct [(0, 9), (1, 12)], 2, 24, [.string ⟨#[]⟩, .int .u64 0]⟩
theorem rowOk13 : RowOk Tryd.prog 13 row13 := rowOk_mk ⟨_, Tryd.underlying13, rfl⟩ (.agg #[.string ⟨#[]⟩, .int .u64 0]) (by kernel_rfl) rfl (fun _ => rfl) rfl rfl (fun h => by cases h)
def row14 : Row := ⟨.struct [(0, 9), (1, 12)], 2, 24, [.string ⟨#[]⟩, .int .u64 0]⟩
theorem rowOk14 : RowOk Tryd.prog 14 row14 := rowOk_mk ⟨_, Tryd.underlying14, rfl⟩ (.agg #[.string ⟨#[]⟩, .int .u64 0]) (by kernel_rfl) rfl (fun _ => rfl) rfl rfl (fun h => by cases h)
def row15 : Row := ⟨.other, 1, 8, [.pointer none]⟩
theorem rowOk15 : RowOk Tryd.prog 15 row15 := rowOk_mk ⟨_, Tryd.underlying15, rfl⟩ (.pointer none) (by kernel_rfl) rfl (fun h => by cases h) rfl rfl (fun _ => rfl)
def row16 : Row := ⟨.other, 1, 8, [.pointer none]⟩
theorem rowOk16 : RowOk Tryd.prog 16 row16 := rowOk_mk ⟨_, Tryd.underlying16, rfl⟩ (.pointer none) (by kernel_rfl) rfl (fun h => by cases h) rfl rfl (fun _ => rfl)
def row17 : Row := ⟨.other, 1, 8, [.pointer none]⟩
theorem rowOk17 : RowOk Tryd.prog 17 row17 := rowOk_mk ⟨_, Tryd.underlying17, rfl⟩ (.pointer none) (by kernel_rfl) rfl (fun h => by cases h) rfl rfl (fun _ => rfl)
def row18 : Row := ⟨.struct [(0, 17)], 1, 8, [.pointer none]⟩
theorem rowOk18 : RowOk Tryd.prog 18 row18 := rowOk_mk ⟨_, Tryd.underlying18, rfl⟩ (.agg #[.pointer none]) (by kernel_rfl) rfl (fun _ => rfl) rfl rfl (fun h => by cases h)
def row19 : Row := ⟨.struct [(0, 17)], 1, 8, [.pointer none]⟩
theorem rowOk19 : RowOk Tryd.prog 19 row19 := rowOk_mk ⟨_, Tryd.underlying19, rfl⟩ (.agg #[.pointer none]) (by kernel_rfl) rfl (fun _ => rfl) rfl rfl (fun h => by cases h)
def row20 : Row := ⟨.other, 1, 16, [.nilIface]⟩
theorem rowOk20 : RowOk Tryd.prog 20 row20 := rowOk_mk ⟨_, Tryd.underlying20, rfl⟩ (.nilIface) (by kernel_rfl) rfl (fun h => by cases h) rfl rfl (fun _ => rfl)
def row21 : Row := ⟨.int .i32, 1, 4, [.int .i32 0]⟩
theorem rowOk21 : RowOk Tryd.prog 21 row21 := rowOk_mk Tryd.underlying21 (.int .i32 0) (by kernel_rfl) rfl (fun h => by cases h) rfl rfl (fun _ => rfl)
def row22 : Row := ⟨.struct [(0, 3), (1, 3), (2, 3), (3, 3), (4, 9), (5, 3)], 6, 56, [.int .i64 0, .int .i64 0, .int .i64 0, .int .i64 0, .string ⟨#[]⟩, .int .i64 0]⟩
theorem rowOk22 : RowOk Tryd.prog 22 row22 := rowOk_mk ⟨_, Tryd.underlying22, rfl⟩ (.agg #[.int .i64 0, .int .i64 0, .int .i64 0, .int .i64 0, .string ⟨#[]⟩, .int .i64 0]) (by kernel_rfl) rfl (fun _ => rfl) rfl rfl (fun h => by cases h)
def row23 : Row := ⟨.struct [(0, 3), (1, 3), (2, 3), (3, 3), (4, 9), (5, 3)], 6, 56, [.int .i64 0, .int .i64 0, .int .i64 0, .int .i64 0, .string ⟨#[]⟩, .int .i64 0]⟩
theorem rowOk23 : RowOk Tryd.prog 23 row23 := rowOk_mk ⟨_, Tryd.underlying23, rfl⟩ (.agg #[.int .i64 0, .int .i64 0, .int .i64 0, .int .i64 0, .string ⟨#[]⟩, .int .i64 0]) (by kernel_rfl) rfl (fun _ => rfl) rfl rfl (fun h => by cases h)
def row24 : Row := ⟨.other, 1, 8, [.nilFunc]⟩
theorem rowOk24 : RowOk Tryd.prog 24 row24 := rowOk_mk ⟨_, Tryd.underlying24, rfl⟩ (.nilFunc) (by kernel_rfl) rfl (fun h => by cases h) rfl rfl (fun _ => rfl)
def row25 : Row := ⟨.slice 5, 1, 24, [.slice none 0 0]⟩
theorem rowOk25 : RowOk Tryd.prog 25 row25 := rowOk_mk Tryd.underlying25 (.slice none 0 0) (by kernel_rfl) rfl (fun h => by cases h) rfl rfl (fun _ => rfl)
def row26 : Row := ⟨.other, 1, 8, [.nilFunc]⟩
theorem rowOk26 : RowOk Tryd.prog 26 row26 := rowOk_mk ⟨_, Tryd.underlying26, rfl⟩ (.nilFunc) (by kernel_rfl) rfl (fun h => by cases h) rfl rfl (fun _ => rfl)
def row27 : Row := ⟨.struct [(0, 3), (1, 3), (2, 3), (3, 3), (4, 9), (5, 3)], 6, 56, [.int .i64 0, .int .i64 0, .int .i64 0, .int .i64 0, .string ⟨#[]⟩, .int .i64 0]⟩
theorem rowOk27 : RowOk Tryd.prog 27 row27 := rowOk_mk ⟨_, Tryd.underlying27, rfl⟩ (.agg #[.int .i64 0, .int .i64 0, .int .i64 0, .int .i64 0, .string ⟨#[]⟩, .int .i64 0]) (by kernel_rfl) rfl (fun _ => rfl) rfl rfl (fun h => by cases h)
def row28 : Row := ⟨.other, 1, 8, [.nilFunc]⟩
theorem rowOk28 : RowOk Tryd.prog 28 row28 := rowOk_mk ⟨_, Tryd.underlying28, rfl⟩ (.nilFunc) (by kernel_rfl) rfl (fun h => by cases h) rfl rfl (fun _ => rfl)
def row29 : Row := ⟨.other, 1, 8, [.nilFunc]⟩
theorem rowOk29 : RowOk Tryd.prog 29 row29 := rowOk_mk ⟨_, Tryd.underlying29, rfl⟩ (.nilFunc) (by kernel_rfl) rfl (fun h => by cases h) rfl rfl (fun _ => rfl)
def row30 : Row := ⟨.other, 1, 8, [.nilFunc]⟩
theorem rowOk30 : RowOk Tryd.prog 30 row30 := rowOk_mk ⟨_, Tryd.underlying30, rfl⟩ (.nilFunc) (by kernel_rfl) rfl (fun h => by cases h) rfl rfl (fun _ => rfl)
def row31 : Row := ⟨.other, 1, 8, [.nilFunc]⟩
theorem rowOk31 : RowOk Tryd.prog 31 row31 := rowOk_mk ⟨_, Tryd.underlying31, rfl⟩ (.nilFunc) (by kernel_rfl) rfl (fun h => by cases h) rfl rfl (fun _ => rfl)
def row32 : Row := ⟨.struct [(0, 3), (1, 3), (2, 3), (3, 9), (4, 9), (5, 9)], 6, 72, [.int .i64 0, .int .i64 0, .int .i64 0, .string ⟨#[]⟩, .string ⟨#[]⟩, .string ⟨#[]⟩]⟩
theorem rowOk32 : RowOk Tryd.prog 32 row32 := rowOk_mk ⟨_, Tryd.underlying32, rfl⟩ (.agg #[.int .i64 0, .int .i64 0, .int .i64 0, .string ⟨#[]⟩, .string ⟨#[]⟩, .string ⟨#[]⟩]) (by kernel_rfl) rfl (fun _ => rfl) rfl rfl (fun h => by cases h)
def row33 : Row := ⟨.struct [(0, 3), (1, 3), (2, 3), (3, 9), (4, 9), (5, 9)], 6, 72, [.int .i64 0, .int .i64 0, .int .i64 0, .string ⟨#[]⟩, .string ⟨#[]⟩, .string ⟨#[]⟩]⟩
theorem rowOk33 : RowOk Tryd.prog 33 row33 := rowOk_mk ⟨_, Tryd.underlying33, rfl⟩ (.agg #[.int .i64 0, .int .i64 0, .int .i64 0, .string ⟨#[]⟩, .string ⟨#[]⟩, .string ⟨#[]⟩]) (by kernel_rfl) rfl (fun _ => rfl) rfl rfl (fun h => by cases h)
def row34 : Row := ⟨.other, 1, 8, [.nilFunc]⟩
theorem rowOk34 : RowOk Tryd.prog 34 row34 := rowOk_mk ⟨_, Tryd.underlying34, rfl⟩ (.nilFunc) (by kernel_rfl) rfl (fun h => by cases h) rfl rfl (fun _ => rfl)
def row35 : Row := ⟨.other, 1, 8, [.nilFunc]⟩
theorem rowOk35 : RowOk Tryd.prog 35 row35 := rowOk_mk ⟨_, Tryd.underlying35, rfl⟩ (.nilFunc) (by kernel_rfl) rfl (fun h => by cases h) rfl rfl (fun _ => rfl)
def row36 : Row := ⟨.struct [(0, 3), (1, 3), (2, 3), (3, 9), (4, 9), (5, 9)], 6, 72, [.int .i64 0, .int .i64 0, .int .i64 0, .string ⟨#[]⟩, .string ⟨#[]⟩, .string ⟨#[]⟩]⟩
theorem rowOk36 : RowOk Tryd.prog 36 row36 := rowOk_mk ⟨_, Tryd.underlying36, rfl⟩ (.agg #[.int .i64 0, .int .i64 0, .int .i64 0, .string ⟨#[]⟩, .string ⟨#[]⟩, .string ⟨#[]⟩]) (by kernel_rfl) rfl (fun _ => rfl) rfl rfl (fun h => by cases h)
def row37 : Row := ⟨.other, 1, 8, [.nilFunc]⟩
theorem rowOk37 : RowOk Tryd.prog 37 row37 := rowOk_mk ⟨_, Tryd.underlying37, rfl⟩ (.nilFunc) (by kernel_rfl) rfl (fun h => by cases h) rfl rfl (fun _ => rfl)
def row38 : Row := ⟨.other, 1, 8, [.nilFunc]⟩
theorem rowOk38 : RowOk Tryd.prog 38 row38 := rowOk_mk ⟨_, Tryd.underlying38, rfl⟩ (.nilFunc) (by kernel_rfl) rfl (fun h => by cases h) rfl rfl (fun _ => rfl)
def row39 : Row := ⟨.slice 94, 1, 24, [.slice none 0 0]⟩
theorem rowOk39 : RowOk Tryd.prog 39 row39 := rowOk_mk Tryd.underlying39 (.slice none 0 0) (by kernel_rfl) rfl (fun h => by cases h) rfl rfl (fun _ => rfl)
def row40 : Row := ⟨.other, 1, 8, [.nilFunc]⟩
theorem rowOk40 : RowOk Tryd.prog 40 row40 := rowOk_mk ⟨_, Tryd.underlying40, rfl⟩ (.nilFunc) (by kernel_rfl) rfl (fun h => by cases h) rfl rfl (fun _ => rfl)
def row41 : Row := ⟨.other, 1, 8, [.nilFunc]⟩
theorem rowOk41 : RowOk Tryd.prog 41 row41 := rowOk_mk ⟨_, Tryd.underlying41, rfl⟩ (.nilFunc) (by kernel_rfl) rfl (fun h => by cases h) rfl rfl (fun _ => rfl)
def row42 : Row := ⟨.slice 100, 1, 24, [.slice none 0 0]⟩
theorem rowOk42 : RowOk Tryd.prog 42 row42 := rowOk_mk Tryd.underlying42 (.slice none 0 0) (by kernel_rfl) rfl (fun h => by cases h) rfl rfl (fun _ => rfl)
def row43 : Row := ⟨.other, 1, 8, [.nilFunc]⟩
theorem rowOk43 : RowOk Tryd.prog 43 row43 := rowOk_mk ⟨_, Tryd.underlying43, rfl⟩ (.nilFunc) (by kernel_rfl) rfl (fun h => by cases h) rfl rfl (fun _ => rfl)
def row44 : Row := ⟨.other, 1, 8, [.nilFunc]⟩
theorem rowOk44 : RowOk Tryd.prog 44 row44 := rowOk_mk ⟨_, Tryd.underlying44, rfl⟩ (.nilFunc) (by kernel_rfl) rfl (fun h => by cases h) rfl rfl (fun _ => rfl)
def row45 : Row := ⟨.other, 1, 8, [.nilFunc]⟩
theorem rowOk45 : RowOk Tryd.prog 45 row45 := rowOk_mk ⟨_, Tryd.underlying45, rfl⟩ (.nilFunc) (by kernel_rfl) rfl (fun h => by cases h) rfl rfl (fun _ => rfl)
def row46 : Row := ⟨.other, 1, 8, [.nilFunc]⟩
theorem rowOk46 : RowOk Tryd.prog 46 row46 := rowOk_mk ⟨_, Tryd.underlying46, rfl⟩ (.nilFunc) (by kernel_rfl) rfl (fun h => by cases h) rfl rfl (fun _ => rfl)
def row47 : Row := ⟨.slice 92, 1, 24, [.slice none 0 0]⟩
theorem rowOk47 : RowOk Tryd.prog 47 row47 := rowOk_mk Tryd.underlying47 (.slice none 0 0) (by kernel_rfl) rfl (fun h => by cases h) rfl rfl (fun _ => rfl)
def row48 : Row := ⟨.struct [(0, 3), (1, 3), (2, 3), (3, 3), (4, 3), (5, 3), (6, 3), (7, 3), (8, 3), (9, 47)], 10, 96, [.int .i64 0, .int .i64 0, .int .i64 0, .int .i64 0, .int .i64 0, .int .i64 0, .int .i64 0, .int .i64 0, .int .i64 0, .slice none 0 0]⟩
theorem rowOk48 : RowOk Tryd.prog 48 row48 := rowOk_mk ⟨_, Tryd.underlying48, rfl⟩ (.agg #[.int .i64 0, .int .i64 0, .int .i64 0, .int .i64 0, .int .i64 0, .int .i64 0, .int .i64 0, .int .i64 0, .int .i64 0, .slice none 0 0]) (by kernel_rfl) rfl (fun _ => rfl) rfl rfl (fun h => by cases h)
def row49 : Row := ⟨.struct [(0, 3), (1, 3), (2, 3), (3, 3), (4, 3), (5, 3), (6, 3), (7, 3), (8, 3), (9, 47)], 10, 96, [.int .i64 0, .int .i64 0, .int .i64 0, .int .i64 0, .int .i64 0, .int .i64 0, .int .i64 0, .int .i64 0, .int .i64 0, .slice none 0 0]⟩
theorem rowOk49 : RowOk Tryd.prog 49 row49 := rowOk_mk ⟨_, Tryd.underlying49, rfl⟩ (.agg #[.int .i64 0, .int .i64 0, .int .i64 0, .int .i64 0, .int .i64 0, .int .i64 0, .int .i64 0, .int .i64 0, .int .i64 0, .slice none 0 0]) (by kernel_rfl) rfl (fun _ => rfl) rfl rfl (fun h => by cases h)
def row50 : Row := ⟨.other, 1, 8, [.nilFunc]⟩
theorem rowOk50 : RowOk Tryd.prog 50 row50 := rowOk_mk ⟨_, Tryd.underlying50, rfl⟩ (.nilFunc) (by kernel_rfl) rfl (fun h => by cases h) rfl rfl (fun _ => rfl)
def row51 : Row := ⟨.other, 1, 8, [.nilFunc]⟩
theorem rowOk51 : RowOk Tryd.prog 51 row51 := rowOk_mk ⟨_, Tryd.underlying51, rfl⟩ (.nilFunc) (by kernel_rfl) rfl (fun h => by cases h) rfl rfl (fun _ => rfl)
def row52 : Row := ⟨.slice 98, 1, 24, [.slice none 0 0]⟩
theorem rowOk52 : RowOk Tryd.prog 52 row52 := rowOk_mk Tryd.underlying52 (.slice none 0 0) (by kernel_rfl) rfl (fun h => by cases h) rfl rfl (fun _ => rfl)
def row53 : Row := ⟨.struct [(0, 3), (1, 3), (2, 3), (3, 3), (4, 3), (5, 3), (6, 3), (7, 3), (8, 3), (9, 52)], 10, 96, [.int .i64 0, .int .i64 0, .int .i64 0, .int .i64 0, .int .i64 0, .int .i64 0, .int .i64 0, .int .i64 0, .int .i64 0, .slice none 0 0]⟩
theorem rowOk53 : RowOk Tryd.prog 53 row53 := rowOk_mk ⟨_, Tryd.underlying53, rfl⟩ (.agg #[.int .i64 0, .int .i64 0, .int .i64 0, .int .i64 0, .int .i64 0, .int .i64 0, .int .i64 0, .int .i64 0, .int .i64 0, .slice none 0 0]) (by kernel_rfl) rfl (fun _ => rfl) rfl rfl (fun h => by cases h)
def row54 : Row := ⟨.struct [(0, 3), (1, 3), (2, 3), (3, 3), (4, 3), (5, 3), (6, 3), (7, 3), (8, 3), (9, 52)], 10, 96, [.int .i64 0, .int .i64 0, .int .i64 0, .int .i64 0, .int .i64 0, .int .i64 0, .int .i64 0, .int .i64 0, .int .i64 0, .slice none 0 0]⟩
theorem rowOk54 : RowOk Tryd.prog 54 row54 := rowOk_mk ⟨_, Tryd.underlying54, rfl⟩ (.agg #[.int .i64 0, .int .i64 0, .int .i64 0, .int .i64 0, .int .i64 0, .int .i64 0, .int .i64 0, .int .i64 0, .int .i64 0, .slice none 0 0]) (by kernel_rfl) rfl (fun _ => rfl) rfl rfl (fun h => by cases h)
def row55 : Row := ⟨.other, 1, 8, [.nilFunc]⟩
theorem rowOk55 : RowOk Tryd.prog 55 row55 := rowOk_mk ⟨_, Tryd.underlying55, rfl⟩ (.nilFunc) (by kernel_rfl) rfl (fun h => by cases h) rfl rfl (fun _ => rfl)
def row56 : Row := ⟨.other, 1, 8, [.nilFunc]⟩
theorem rowOk56 : RowOk Tryd.prog 56 row56 := rowOk_mk ⟨_, Tryd.underlying56, rfl⟩ (.nilFunc) (by kernel_rfl) rfl (fun h => by cases h) rfl rfl (fun _ => rfl)
def row57 : Row := ⟨.other, 1, 8, [.nilFunc]⟩
theorem rowOk57 : RowOk Tryd.prog 57 row57 := rowOk_mk ⟨_, Tryd.underlying57, rfl⟩ (.nilFunc) (by kernel_rfl) rfl (fun h => by cases h) rfl rfl (fun _ => rfl)
def row58 : Row := ⟨.other, 1, 8, [.nilFunc]⟩
theorem rowOk58 : RowOk Tryd.prog 58 row58 := rowOk_mk ⟨_, Tryd.underlying58, rfl⟩ (.nilFunc) (by kernel_rfl) rfl (fun h => by cases h) rfl rfl (fun _ => rfl)
def row59 : Row := ⟨.struct [(0, 3), (1, 3), (2, 25)], 3, 40, [.int .i64 0, .int .i64 0, .slice none 0 0]⟩
theorem rowOk59 : RowOk Tryd.prog 59 row59 := rowOk_mk ⟨_, Tryd.underlying59, rfl⟩ (.agg #[.int .i64 0, .int .i64 0, .slice none 0 0]) (by kernel_rfl) rfl (fun _ => rfl) rfl rfl (fun h => by cases h)
def row60 : Row := ⟨.struct [(0, 3), (1, 3), (2, 25)], 3, 40, [.int .i64 0, .int .i64 0, .slice none 0 0]⟩
theorem rowOk60 : RowOk Tryd.prog 60 row60 := rowOk_mk ⟨_, Tryd.underlying60, rfl⟩ (.agg #[.int .i64 0, .int .i64 0, .slice none 0 0]) (by kernel_rfl) rfl (fun _ => rfl) rfl rfl (fun h => by cases h)
def row61 : Row := ⟨.other, 1, 8, [.nilFunc]⟩
theorem rowOk61 : RowOk Tryd.prog 61 row61 := rowOk_mk ⟨_, Tryd.underlying61, rfl⟩ (.nilFunc) (by kernel_rfl) rfl (fun h => by cases h) rfl rfl (fun _ => rfl)
def row62 : Row := ⟨.struct [(0, 3), (1, 3), (2, 25)], 3, 40, [.int .i64 0, .int .i64 0, .slice none 0 0]⟩
theorem rowOk62 : RowOk Tryd.prog 62 row62 := rowOk_mk ⟨_, Tryd.underlying62, rfl⟩ (.agg #[.int .i64 0, .int .i64 0, .slice none 0 0]) (by kernel_rfl) rfl (fun _ => rfl) rfl rfl (fun h => by cases h)
def row63 : Row := ⟨.struct [(0, 3), (1, 62)], 4, 48, [.int .i64 0, .int .i64 0, .int .i64 0, .slice none 0 0]⟩
theorem rowOk63 : RowOk Tryd.prog 63 row63 := rowOk_mk ⟨_, Tryd.underlying63, rfl⟩ (.agg #[.int .i64 0, .int .i64 0, .int .i64 0, .slice none 0 0]) (by kernel_rfl) rfl (fun _ => rfl) rfl rfl (fun h => by cases h)
def row64 : Row := ⟨.struct [(0, 3), (1, 62)], 4, 48, [.int .i64 0, .int .i64 0, .int .i64 0, .slice none 0 0]⟩
theorem rowOk64 : RowOk Tryd.prog 64 row64 := rowOk_mk ⟨_, Tryd.underlying64, rfl⟩ (.agg #[.int .i64 0, .int .i64 0, .int .i64 0, .slice none 0 0]) (by kernel_rfl) rfl (fun _ => rfl) rfl rfl (fun h => by cases h)
def row65 : Row := ⟨.other, 1, 8, [.nilFunc]⟩
theorem rowOk65 : RowOk Tryd.prog 65 row65 := rowOk_mk ⟨_, Tryd.underlying65, rfl⟩ (.nilFunc) (by kernel_rfl) rfl (fun h => by cases h) rfl rfl (fun _ => rfl)
def row66 : Row := ⟨.other, 1, 8, [.nilFunc]⟩
theorem rowOk66 : RowOk Tryd.prog 66 row66 := rowOk_mk ⟨_, Tryd.underlying66, rfl⟩ (.nilFunc) (by kernel_rfl) rfl (fun h => by cases h) rfl rfl (fun _ => rfl)
def row67 : Row := ⟨.other, 1, 8, [.nilFunc]⟩
theorem rowOk67 : RowOk Tryd.prog 67 row67 := rowOk_mk ⟨_, Tryd.underlying67, rfl⟩ (.nilFunc) (by kernel_rfl) rfl (fun h => by cases h) rfl rfl (fun _ => rfl)
def row68 : Row := ⟨.other, 1, 8, [.nilFunc]⟩
theorem rowOk68 : RowOk Tryd.prog 68 row68 := rowOk_mk ⟨_, Tryd.underlying68, rfl⟩ (.nilFunc) (by kernel_rfl) rfl (fun h => by cases h) rfl rfl (fun _ => rfl)
def row69 : Row := ⟨.other, 1, 8, [.nilFunc]⟩
theorem rowOk69 : RowOk Tryd.prog 69 row69 := rowOk_mk ⟨_, Tryd.underlying69, rfl⟩ (.nilFunc) (by kernel_rfl) rfl (fun h => by cases h) rfl rfl (fun _ => rfl)
def row70 : Row := ⟨.other, 1, 8, [.nilFunc]⟩
theorem rowOk70 : RowOk Tryd.prog 70 row70 := rowOk_mk ⟨_, Tryd.underlying70, rfl⟩ (.nilFunc) (by kernel_rfl) rfl (fun h => by cases h) rfl rfl (fun _ => rfl)
def row71 : Row := ⟨.other, 1, 8, [.nilFunc]⟩
theorem rowOk71 : RowOk Tryd.prog 71 row71 := rowOk_mk ⟨_, Tryd.underlying71, rfl⟩ (.nilFunc) (by kernel_rfl) rfl (fun h => by cases h) rfl rfl (fun _ => rfl)
def row73 : Row := ⟨.other, 1, 8, [.nilFunc]⟩
theorem rowOk73 : RowOk Tryd.prog 73 row73 := rowOk_mk ⟨_, Tryd.underlying73, rfl⟩ (.nilFunc) (by kernel_rfl) rfl (fun h => by cases h) rfl rfl (fun _ => rfl)
def row75 : Row := ⟨.other, 1, 8, [.nilFunc]⟩
theorem rowOk75 : RowOk Tryd.prog 75 row75 := rowOk_mk ⟨_, Tryd.underlying75, rfl⟩ (.nilFunc) (by kernel_rfl) rfl (fun h => by cases h) rfl rfl (fun _ => rfl)
def row76 : Row := ⟨.other, 1, 8, [.nilFunc]⟩
theorem rowOk76 : RowOk Tryd.prog 76 row76 := rowOk_mk ⟨_, Tryd.underlying76, rfl⟩ (.nilFunc) (by kernel_rfl) rfl (fun h => by cases h) rfl rfl (fun _ => rfl)
def row77 : Row := ⟨.other, 1, 8, [.nilFunc]⟩
theorem rowOk77 : RowOk Tryd.prog 77 row77 := rowOk_mk ⟨_, Tryd.underlying77, rfl⟩ (.nilFunc) (by kernel_rfl) rfl (fun h => by cases h) rfl rfl (fun _ => rfl)
def row78 : Row := ⟨.other, 1, 8, [.nilFunc]⟩
theorem rowOk78 : RowOk Tryd.prog 78 row78 := rowOk_mk ⟨_, Tryd.underlying78, rfl⟩ (.nilFunc) (by kernel_rfl) rfl (fun h => by cases h) rfl rfl (fun _ => rfl)
def row79 : Row := ⟨.other, 1, 8, [.nilFunc]⟩
theorem rowOk79 : RowOk Tryd.prog 79 row79 := rowOk_mk ⟨_, Tryd.underlying79, rfl⟩ (.nilFunc) (by kernel_rfl) rfl (fun h => by cases h) rfl rfl (fun _ => rfl)
def row80 : Row := ⟨.other, 1, 8, [.nilFunc]⟩
theorem rowOk80 : RowOk Tryd.prog 80 row80 := rowOk_mk ⟨_, Tryd.underlying80, rfl⟩ (.nilFunc) (by kernel_rfl) rfl (fun h => by cases h) rfl rfl (fun _ => rfl)
def row81 : Row := ⟨.other, 1, 8, [.nilFunc]⟩
theorem rowOk81 : RowOk Tryd.prog 81 row81 := rowOk_mk ⟨_, Tryd.underlying81, rfl⟩ (.nilFunc) (by kernel_rfl) rfl (fun h => by cases h) rfl rfl (fun _ => rfl)
def row82 : Row := ⟨.other, 1, 8, [.nilFunc]⟩
theorem rowOk82 : RowOk Tryd.prog 82 row82 := rowOk_mk ⟨_, Tryd.underlying82, rfl⟩ (.nilFunc) (by kernel_rfl) rfl (fun h => by cases h) rfl rfl (fun _ => rfl)
def row83 : Row := ⟨.other, 1, 8, [.pointer none]⟩
theorem rowOk83 : RowOk Tryd.prog 83 row83 := rowOk_mk ⟨_, Tryd.underlying83, rfl⟩ (.pointer none) (by kernel_rfl) rfl (fun h => by cases h) rfl rfl (fun _ => rfl)
def row84 : Row := ⟨.struct [(0, 27)], 6, 56, [.int .i64 0, .int .i64 0, .int .i64 0, .int .i64 0, .string ⟨#[]⟩, .int .i64 0]⟩
theorem rowOk84 : RowOk Tryd.prog 84 row84 := rowOk_mk ⟨_, Tryd.underlying84, rfl⟩ (.agg #[.int .i64 0, .int .i64 0, .int .i64 0, .int .i64 0, .string ⟨#[]⟩, .int .i64 0]) (by kernel_rfl) rfl (fun _ => rfl) rfl rfl (fun h => by cases h)
def row85 : Row := ⟨.struct [(0, 27)], 6, 56, [.int .i64 0, .int .i64 0, .int .i64 0, .int .i64 0, .string ⟨#[]⟩, .int .i64 0]⟩
theorem rowOk85 : RowOk Tryd.prog 85 row85 := rowOk_mk ⟨_, Tryd.underlying85, rfl⟩ (.agg #[.int .i64 0, .int .i64 0, .int .i64 0, .int .i64 0, .string ⟨#[]⟩, .int .i64 0]) (by kernel_rfl) rfl (fun _ => rfl) rfl rfl (fun h => by cases h)
def row86 : Row := ⟨.other, 1, 8, [.nilFunc]⟩
theorem rowOk86 : RowOk Tryd.prog 86 row86 := rowOk_mk ⟨_, Tryd.underlying86, rfl⟩ (.nilFunc) (by kernel_rfl) rfl (fun h => by cases h) rfl rfl (fun _ => rfl)
def row87 : Row := ⟨.other, 1, 8, [.pointer none]⟩
theorem rowOk87 : RowOk Tryd.prog 87 row87 := rowOk_mk ⟨_, Tryd.underlying87, rfl⟩ (.pointer none) (by kernel_rfl) rfl (fun h => by cases h) rfl rfl (fun _ => rfl)
def row88 : Row := ⟨.struct [(0, 36)], 6, 72, [.int .i64 0, .int .i64 0, .int .i64 0, .string ⟨#[]⟩, .string ⟨#[]⟩, .string ⟨#[]⟩]⟩
theorem rowOk88 : RowOk Tryd.prog 88 row88 := rowOk_mk ⟨_, Tryd.underlying88, rfl⟩ (.agg #[.int .i64 0, .int .i64 0, .int .i64 0, .string ⟨#[]⟩, .string ⟨#[]⟩, .string ⟨#[]⟩]) (by kernel_rfl) rfl (fun _ => rfl) rfl rfl (fun h => by cases h)
def row89 : Row := ⟨.struct [(0, 36)], 6, 72, [.int .i64 0, .int .i64 0, .int .i64 0, .string ⟨#[]⟩, .string ⟨#[]⟩, .string ⟨#[]⟩]⟩
theorem rowOk89 : RowOk Tryd.prog 89 row89 := rowOk_mk ⟨_, Tryd.underlying89, rfl⟩ (.agg #[.int .i64 0, .int .i64 0, .int .i64 0, .string ⟨#[]⟩, .string ⟨#[]⟩, .string ⟨#[]⟩]) (by kernel_rfl) rfl (fun _ => rfl) rfl rfl (fun h => by cases h)
def row90 : Row := ⟨.other, 1, 8, [.nilFunc]⟩
theorem rowOk90 : RowOk Tryd.prog 90 row90 := rowOk_mk ⟨_, Tryd.underlying90, rfl⟩ (.nilFunc) (by kernel_rfl) rfl (fun h => by cases h) rfl rfl (fun _ => rfl)
def row91 : Row := ⟨.struct [(0, 3), (1, 33)], 7, 80, [.int .i64 0, .int .i64 0, .int .i64 0, .int .i64 0, .string ⟨#[]⟩, .string ⟨#[]⟩, .string ⟨#[]⟩]⟩
theorem rowOk91 : RowOk Tryd.prog 91 row91 := rowOk_mk ⟨_, Tryd.underlying91, rfl⟩ (.agg #[.int .i64 0, .int .i64 0, .int .i64 0, .int .i64 0, .string ⟨#[]⟩, .string ⟨#[]⟩, .string ⟨#[]⟩]) (by kernel_rfl) rfl (fun _ => rfl) rfl rfl (fun h => by cases h)
def row92 : Row := ⟨.struct [(0, 3), (1, 33)], 7, 80, [.int .i64 0, .int .i64 0, .int .i64 0, .int .i64 0, .string ⟨#[]⟩, .string ⟨#[]⟩, .string ⟨#[]⟩]⟩
theorem rowOk92 : RowOk Tryd.prog 92 row92 := rowOk_mk ⟨_, Tryd.underlying92, rfl⟩ (.agg #[.int .i64 0, .int .i64 0, .int .i64 0, .int .i64 0, .string ⟨#[]⟩, .string ⟨#[]⟩, .string ⟨#[]⟩]) (by kernel_rfl) rfl (fun _ => rfl) rfl rfl (fun h => by cases h)
def row93 : Row := ⟨.struct [(0, 3), (1, 3), (2, 3), (3, 3), (4, 92)], 11, 112, [.int .i64 0, .int .i64 0, .int .i64 0, .int .i64 0, .int .i64 0, .int .i64 0, .int .i64 0, .int .i64 0, .string ⟨#[]⟩, .string ⟨#[]⟩, .string ⟨#[]⟩]⟩
theorem rowOk93 : RowOk Tryd.prog 93 row93 := rowOk_mk ⟨_, Tryd.underlying93, rfl⟩ (.agg #[.int .i64 0, .int .i64 0, .int .i64 0, .int .i64 0, .int .i64 0, .int .i64 0, .int .i64 0, .int .i64 0, .string ⟨#[]⟩, .string ⟨#[]⟩, .string ⟨#[]⟩]) (by kernel_rfl) rfl (fun _ => rfl) rfl rfl (fun h => by cases h)
def row94 : Row := ⟨.struct [(0, 3), (1, 3), (2, 3), (3, 3), (4, 92)], 11, 112, [.int .i64 0, .int .i64 0, .int .i64 0, .int .i64 0, .int .i64 0, .int .i64 0, .int .i64 0, .int .i64 0, .string ⟨#[]⟩, .string ⟨#[]⟩, .string ⟨#[]⟩]⟩
theorem rowOk94 : RowOk Tryd.prog 94 row94 := rowOk_mk ⟨_, Tryd.underlying94, rfl⟩ (.agg #[.int .i64 0, .int .i64 0, .int .i64 0, .int .i64 0, .int .i64 0, .int .i64 0, .int .i64 0, .int .i64 0, .string ⟨#[]⟩, .string ⟨#[]⟩, .string ⟨#[]⟩]) (by kernel_rfl) rfl (fun _ => rfl) rfl rfl (fun h => by cases h)
def row95 : Row := ⟨.other, 1, 8, [.nilFunc]⟩
theorem rowOk95 : RowOk Tryd.prog 95 row95 := rowOk_mk ⟨_, Tryd.underlying95, rfl⟩ (.nilFunc) (by kernel_rfl) rfl (fun h => by cases h) rfl rfl (fun _ => rfl)
def row96 : Row := ⟨.other, 1, 8, [.nilFunc]⟩
theorem rowOk96 : RowOk Tryd.prog 96 row96 := rowOk_mk ⟨_, Tryd.underlying96, rfl⟩ (.nilFunc) (by kernel_rfl) rfl (fun h => by cases h) rfl rfl (fun _ => rfl)
def row97 : Row := ⟨.struct [(0, 3), (1, 36)], 7, 80, [.int .i64 0, .int .i64 0, .int .i64 0, .int .i64 0, .string ⟨#[]⟩, .string ⟨#[]⟩, .string ⟨#[]⟩]⟩
theorem rowOk97 : RowOk Tryd.prog 97 row97 := rowOk_mk ⟨_, Tryd.underlying97, rfl⟩ (.agg #[.int .i64 0, .int .i64 0, .int .i64 0, .int .i64 0, .string ⟨#[]⟩, .string ⟨#[]⟩, .string ⟨#[]⟩]) (by kernel_rfl) rfl (fun _ => rfl) rfl rfl (fun h => by cases h)
def row98 : Row := ⟨.struct [(0, 3), (1, 36)], 7, 80, [.int .i64 0, .int .i64 0, .int .i64 0, .int .i64 0, .string ⟨#[]⟩, .string ⟨#[]⟩, .string ⟨#[]⟩]⟩
theorem rowOk98 : RowOk Tryd.prog 98 row98 := rowOk_mk ⟨_, Tryd.underlying98, rfl⟩ (.agg #[.int .i64 0, .int .i64 0, .int .i64 0, .int .i64 0, .string ⟨#[]⟩, .string ⟨#[]⟩, .string ⟨#[]⟩]) (by kernel_rfl) rfl (fun _ => rfl) rfl rfl (fun h => by cases h)
def row99 : Row := ⟨.struct [(0, 3), (1, 3), (2, 3), (3, 3), (4, 98)], 11, 112, [.int .i64 0, .int .i64 0, .int .i64 0, .int .i64 0, .int .i64 0, .int .i64 0, .int .i64 0, .int .i64 0, .string ⟨#[]⟩, .string ⟨#[]⟩, .string ⟨#[]⟩]⟩
theorem rowOk99 : RowOk Tryd.prog 99 row99 := rowOk_mk ⟨_, Tryd.underlying99, rfl⟩ (.agg #[.int .i64 0, .int .i64 0, .int .i64 0, .int .i64 0, .int .i64 0, .int .i64 0, .int .i64 0, .int .i64 0, .string ⟨#[]⟩, .string ⟨#[]⟩, .string ⟨#[]⟩]) (by kernel_rfl) rfl (fun _ => rfl) rfl rfl (fun h => by cases h)
def row100 : Row := ⟨.struct [(0, 3), (1, 3), (2, 3), (3, 3), (4, 98)], 11, 112, [.int .i64 0, .int .i64 0, .int .i64 0, .int .i64 0, .int .i64 0, .int .i64 0, .int .i64 0, .int .i64 0, .string ⟨#[]⟩, .string ⟨#[]⟩, .string ⟨#[]⟩]⟩
theorem rowOk100 : RowOk Tryd.prog 100 row100 := rowOk_mk ⟨_, Tryd.underlying100, rfl⟩ (.agg #[.int .i64 0, .int .i64 0, .int .i64 0, .int .i64 0, .int .i64 0, .int .i64 0, .int .i64 0, .int .i64 0, .string ⟨#[]⟩, .string ⟨#[]⟩, .string ⟨#[]⟩]) (by kernel_rfl) rfl (fun _ => rfl) rfl rfl (fun h => by cases h)
def row101 : Row := ⟨.other, 1, 8, [.nilFunc]⟩
theorem rowOk101 : RowOk Tryd.prog 101 row101 := rowOk_mk ⟨_, Tryd.underlying101, rfl⟩ (.nilFunc) (by kernel_rfl) rfl (fun h => by cases h) rfl rfl (fun _ => rfl)
def row102 : Row := ⟨.other, 1, 8, [.pointer none]⟩
theorem rowOk102 : RowOk Tryd.prog 102 row102 := rowOk_mk ⟨_, Tryd.underlying102, rfl⟩ (.pointer none) (by kernel_rfl) rfl (fun h => by cases h) rfl rfl (fun _ => rfl)
def row103 : Row := ⟨.other, 1, 8, [.nilFunc]⟩
theorem rowOk103 : RowOk Tryd.prog 103 row103 := rowOk_mk ⟨_, Tryd.underlying103, rfl⟩ (.nilFunc) (by kernel_rfl) rfl (fun h => by cases h) rfl rfl (fun _ => rfl)
def row104 : Row := ⟨.other, 1, 8, [.nilFunc]⟩
theorem rowOk104 : RowOk Tryd.prog 104 row104 := rowOk_mk ⟨_, Tryd.underlying104, rfl⟩ (.nilFunc) (by kernel_rfl) rfl (fun h => by cases h) rfl rfl (fun _ => rfl)
def row105 : Row := ⟨.other, 1, 8, [.nilFunc]⟩
theorem rowOk105 : RowOk Tryd.prog 105 row105 := rowOk_mk ⟨_, Tryd.underlying105, rfl⟩ (.nilFunc) (by kernel_rfl) rfl (fun h => by cases h) rfl rfl (fun _ => rfl)
def row106 : Row := ⟨.other, 1, 8, [.nilFunc]⟩
theorem rowOk106 : RowOk Tryd.prog 106 row106 := rowOk_mk ⟨_, Tryd.underlying106, rfl⟩ (.nilFunc) (by kernel_rfl) rfl (fun h => by cases h) rfl rfl (fun _ => rfl)
def row107 : Row := ⟨.slice 3, 1, 24, [.slice none 0 0]⟩
theorem rowOk107 : RowOk Tryd.prog 107 row107 := rowOk_mk Tryd.underlying107 (.slice none 0 0) (by kernel_rfl) rfl (fun h => by cases h) rfl rfl (fun _ => rfl)
def row108 : Row := ⟨.other, 1, 8, [.nilFunc]⟩
theorem rowOk108 : RowOk Tryd.prog 108 row108 := rowOk_mk ⟨_, Tryd.underlying108, rfl⟩ (.nilFunc) (by kernel_rfl) rfl (fun h => by cases h) rfl rfl (fun _ => rfl)
def row109 : Row := ⟨.other, 1, 8, [.nilFunc]⟩
theorem rowOk109 : RowOk Tryd.prog 109 row109 := rowOk_mk ⟨_, Tryd.underlying109, rfl⟩ (.nilFunc) (by kernel_rfl) rfl (fun h => by cases h) rfl rfl (fun _ => rfl)
def row110 : Row := ⟨.other, 1, 8, [.pointer none]⟩
theorem rowOk110 : RowOk Tryd.prog 110 row110 := rowOk_mk ⟨_, Tryd.underlying110, rfl⟩ (.pointer none) (by kernel_rfl) rfl (fun h => by cases h) rfl rfl (fun _ => rfl)
def row111 : Row := ⟨.struct [(0, 54)], 10, 96, [.int .i64 0, .int .i64 0, .int .i64 0, .int .i64 0, .int .i64 0, .int .i64 0, .int .i64 0, .int .i64 0, .int .i64 0, .slice none 0 0]⟩
theorem rowOk111 : RowOk Tryd.prog 111 row111 := rowOk_mk ⟨_, Tryd.underlying111, rfl⟩ (.agg #[.int .i64 0, .int .i64 0, .int .i64 0, .int .i64 0, .int .i64 0, .int .i64 0, .int .i64 0, .int .i64 0, .int .i64 0, .slice none 0 0]) (by kernel_rfl) rfl (fun _ => rfl) rfl rfl (fun h => by cases h)
def row112 : Row := ⟨.struct [(0, 54)], 10, 96, [.int .i64 0, .int .i64 0, .int .i64 0, .int .i64 0, .int .i64 0, .int .i64 0, .int .i64 0, .int .i64 0, .int .i64 0, .slice none 0 0]⟩
theorem rowOk112 : RowOk Tryd.prog 112 row112 := rowOk_mk ⟨_, Tryd.underlying112, rfl⟩ (.agg #[.int .i64 0, .int .i64 0, .int .i64 0, .int .i64 0, .int .i64 0, .int .i64 0, .int .i64 0, .int .i64 0, .int .i64 0, .slice none 0 0]) (by kernel_rfl) rfl (fun _ => rfl) rfl rfl (fun h => by cases h)
def row113 : Row := ⟨.other, 1, 8, [.nilFunc]⟩
theorem rowOk113 : RowOk Tryd.prog 113 row113 := rowOk_mk ⟨_, Tryd.underlying113, rfl⟩ (.nilFunc) (by kernel_rfl) rfl (fun h => by cases h) rfl rfl (fun _ => rfl)
def row114 : Row := ⟨.other, 1, 8, [.nilFunc]⟩
theorem rowOk114 : RowOk Tryd.prog 114 row114 := rowOk_mk ⟨_, Tryd.underlying114, rfl⟩ (.nilFunc) (by kernel_rfl) rfl (fun h => by cases h) rfl rfl (fun _ => rfl)
def row115 : Row := ⟨.other, 1, 8, [.nilFunc]⟩
theorem rowOk115 : RowOk Tryd.prog 115 row115 := rowOk_mk ⟨_, Tryd.underlying115, rfl⟩ (.nilFunc) (by kernel_rfl) rfl (fun h => by cases h) rfl rfl (fun _ => rfl)
def row116 : Row := ⟨.other, 1, 8, [.nilFunc]⟩
theorem rowOk116 : RowOk Tryd.prog 116 row116 := rowOk_mk ⟨_, Tryd.underlying116, rfl⟩ (.nilFunc) (by kernel_rfl) rfl (fun h => by cases h) rfl rfl (fun _ => rfl)
def row117 : Row := ⟨.other, 1, 8, [.nilFunc]⟩
theorem rowOk117 : RowOk Tryd.prog 117 row117 := rowOk_mk ⟨_, Tryd.underlying117, rfl⟩ (.nilFunc) (by kernel_rfl) rfl (fun h => by cases h) rfl rfl (fun _ => rfl)
def row118 : Row := ⟨.other, 1, 16, [.nilIface]⟩
theorem rowOk118 : RowOk Tryd.prog 118 row118 := rowOk_mk ⟨_, Tryd.underlying118, rfl⟩ (.nilIface) (by kernel_rfl) rfl (fun h => by cases h) rfl rfl (fun _ => rfl)
def row119 : Row := ⟨.other, 1, 16, [.nilIface]⟩
theorem rowOk119 : RowOk Tryd.prog 119 row119 := rowOk_mk ⟨_, Tryd.underlying119, rfl⟩ (.nilIface) (by kernel_rfl) rfl (fun h => by cases h) rfl rfl (fun _ => rfl)
def row120 : Row := ⟨.other, 1, 8, [.nilFunc]⟩
theorem rowOk120 : RowOk Tryd.prog 120 row120 := rowOk_mk ⟨_, Tryd.underlying120, rfl⟩ (.nilFunc) (by kernel_rfl) rfl (fun h => by cases h) rfl rfl (fun _ => rfl)
def row121 : Row := ⟨.other, 1, 8, [.nilFunc]⟩
theorem rowOk121 : RowOk Tryd.prog 121 row121 := rowOk_mk ⟨_, Tryd.underlying121, rfl⟩ (.nilFunc) (by kernel_rfl) rfl (fun h => by cases h) rfl rfl (fun _ => rfl)
def row122 : Row := ⟨.struct [(0, 25), (1, 3)], 2, 32, [.slice none 0 0, .int .i64 0]⟩
theorem rowOk122 : RowOk Tryd.prog 122 row122 := rowOk_mk ⟨_, Tryd.underlying122, rfl⟩ (.agg #[.slice none 0 0, .int .i64 0]) (by kernel_rfl) rfl (fun _ => rfl) rfl rfl (fun h => by cases h)
def row123 : Row := ⟨.struct [(0, 25), (1, 3)], 2, 32, [.slice none 0 0, .int .i64 0]⟩
theorem rowOk123 : RowOk Tryd.prog 123 row123 := rowOk_mk ⟨_, Tryd.underlying123, rfl⟩ (.agg #[.slice none 0 0, .int .i64 0]) (by kernel_rfl) rfl (fun _ => rfl) rfl rfl (fun h => by cases h)
def row124 : Row := ⟨.other, 1, 8, [.nilFunc]⟩
theorem rowOk124 : RowOk Tryd.prog 124 row124 := rowOk_mk ⟨_, Tryd.underlying124, rfl⟩ (.nilFunc) (by kernel_rfl) rfl (fun h => by cases h) rfl rfl (fun _ => rfl)
def row125 : Row := ⟨.other, 1, 8, [.pointer none]⟩
theorem rowOk125 : RowOk Tryd.prog 125 row125 := rowOk_mk ⟨_, Tryd.underlying125, rfl⟩ (.pointer none) (by kernel_rfl) rfl (fun h => by cases h) rfl rfl (fun _ => rfl)
def row126 : Row := ⟨.other, 1, 8, [.nilFunc]⟩
theorem rowOk126 : RowOk Tryd.prog 126 row126 := rowOk_mk ⟨_, Tryd.underlying126, rfl⟩ (.nilFunc) (by kernel_rfl) rfl (fun h => by cases h) rfl rfl (fun _ => rfl)
def row127 : Row := ⟨.other, 1, 8, [.nilFunc]⟩
theorem rowOk127 : RowOk Tryd.prog 127 row127 := rowOk_mk ⟨_, Tryd.underlying127, rfl⟩ (.nilFunc) (by kernel_rfl) rfl (fun h => by cases h) rfl rfl (fun _ => rfl)
def row128 : Row := ⟨.other, 1, 8, [.nilFunc]⟩
theorem rowOk128 : RowOk Tryd.prog 128 row128 := rowOk_mk ⟨_, Tryd.underlying128, rfl⟩ (.nilFunc) (by kernel_rfl) rfl (fun h => by cases h) rfl rfl (fun _ => rfl)
def row129 : Row := ⟨.other, 1, 8, [.nilFunc]⟩
theorem rowOk129 : RowOk Tryd.prog 129 row129 := rowOk_mk ⟨_, Tryd.underlying129, rfl⟩ (.nilFunc) (by kernel_rfl) rfl (fun h => by cases h) rfl rfl (fun _ => rfl)
def row130 : Row := ⟨.other, 1, 8, [.nilFunc]⟩
theorem rowOk130 : RowOk Tryd.prog 130 row130 := rowOk_mk ⟨_, Tryd.underlying130, rfl⟩ (.nilFunc) (by kernel_rfl) rfl (fun h => by cases h) rfl rfl (fun _ => rfl)
def row131 : Row := ⟨.int .u32, 1, 4, [.int .u32 0]⟩
theorem rowOk131 : RowOk Tryd.prog 131 row131 := rowOk_mk Tryd.underlying131 (.int .u32 0) (by kernel_rfl) rfl (fun h => by cases h) rfl rfl (fun _ => rfl)
def row132 : Row := ⟨.other, 1, 8, [.nilFunc]⟩
theorem rowOk132 : RowOk Tryd.prog 132 row132 := rowOk_mk ⟨_, Tryd.underlying132, rfl⟩ (.nilFunc) (by kernel_rfl) rfl (fun h => by cases h) rfl rfl (fun _ => rfl)
def row133 : Row := ⟨.other, 1, 16, [.nilIface]⟩
theorem rowOk133 : RowOk Tryd.prog 133 row133 := rowOk_mk ⟨_, Tryd.underlying133, rfl⟩ (.nilIface) (by kernel_rfl) rfl (fun h => by cases h) rfl rfl (fun _ => rfl)
def row134 : Row := ⟨.other, 1, 16, [.nilIface]⟩
theorem rowOk134 : RowOk Tryd.prog 134 row134 := rowOk_mk ⟨_, Tryd.underlying134, rfl⟩ (.nilIface) (by kernel_rfl) rfl (fun h => by cases h) rfl rfl (fun _ => rfl)
def row135 : Row := ⟨.other, 1, 8, [.nilFunc]⟩
theorem rowOk135 : RowOk Tryd.prog 135 row135 := rowOk_mk ⟨_, Tryd.underlying135, rfl⟩ (.nilFunc) (by kernel_rfl) rfl (fun h => by cases h) rfl rfl (fun _ => rfl)
def row136 : Row := ⟨.other, 1, 8, [.pointer none]⟩
theorem rowOk136 : RowOk Tryd.prog 136 row136 := rowOk_mk ⟨_, Tryd.underlying136, rfl⟩ (.pointer none) (by kernel_rfl) rfl (fun h => by cases h) rfl rfl (fun _ => rfl)
def row137 : Row := ⟨.other, 1, 8, [.nilFunc]⟩
theorem rowOk137 : RowOk Tryd.prog 137 row137 := rowOk_mk ⟨_, Tryd.underlying137, rfl⟩ (.nilFunc) (by kernel_rfl) rfl (fun h => by cases h) rfl rfl (fun _ => rfl)
def row138 : Row := ⟨.struct [(0, 25)], 1, 24, [.slice none 0 0]⟩
theorem rowOk138 : RowOk Tryd.prog 138 row138 := rowOk_mk ⟨_, Tryd.underlying138, rfl⟩ (.agg #[.slice none 0 0]) (by kernel_rfl) rfl (fun _ => rfl) rfl rfl (fun h => by cases h)
def row139 : Row := ⟨.struct [(0, 25)], 1, 24, [.slice none 0 0]⟩
theorem rowOk139 : RowOk Tryd.prog 139 row139 := rowOk_mk ⟨_, Tryd.underlying139, rfl⟩ (.agg #[.slice none 0 0]) (by kernel_rfl) rfl (fun _ => rfl) rfl rfl (fun h => by cases h)
def row140 : Row := ⟨.other, 1, 8, [.nilFunc]⟩
theorem rowOk140 : RowOk Tryd.prog 140 row140 := rowOk_mk ⟨_, Tryd.underlying140, rfl⟩ (.nilFunc) (by kernel_rfl) rfl (fun h => by cases h) rfl rfl (fun _ => rfl)
def row141 : Row := ⟨.other, 1, 8, [.nilFunc]⟩
theorem rowOk141 : RowOk Tryd.prog 141 row141 := rowOk_mk ⟨_, Tryd.underlying141, rfl⟩ (.nilFunc) (by kernel_rfl) rfl (fun h => by cases h) rfl rfl (fun _ => rfl)
def row142 : Row := ⟨.other, 1, 8, [.nilFunc]⟩
theorem rowOk142 : RowOk Tryd.prog 142 row142 := rowOk_mk ⟨_, Tryd.underlying142, rfl⟩ (.nilFunc) (by kernel_rfl) rfl (fun h => by cases h) rfl rfl (fun _ => rfl)
def row143 : Row := ⟨.other, 1, 8, [.nilFunc]⟩
theorem rowOk143 : RowOk Tryd.prog 143 row143 := rowOk_mk ⟨_, Tryd.underlying143, rfl⟩ (.nilFunc) (by kernel_rfl) rfl (fun h => by cases h) rfl rfl (fun _ => rfl)
def row144 : Row := ⟨.other, 1, 8, [.nilFunc]⟩
theorem rowOk144 : RowOk Tryd.prog 144 row144 := rowOk_mk ⟨_, Tryd.underlying144, rfl⟩ (.nilFunc) (by kernel_rfl) rfl (fun h => by cases h) rfl rfl (fun _ => rfl)
def row145 : Row := ⟨.other, 1, 8, [.nilFunc]⟩
theorem rowOk145 : RowOk Tryd.prog 145 row145 := rowOk_mk ⟨_, Tryd.underlying145, rfl⟩ (.nilFunc) (by kernel_rfl) rfl (fun h => by cases h) rfl rfl (fun _ => rfl)
def row146 : Row := ⟨.other, 1, 8, [.pointer none]⟩
theorem rowOk146 : RowOk Tryd.prog 146 row146 := rowOk_mk ⟨_, Tryd.underlying146, rfl⟩ (.pointer none) (by kernel_rfl) rfl (fun h => by cases h) rfl rfl (fun _ => rfl)
def row147 : Row := ⟨.other, 1, 16, [.nilIface]⟩
theorem rowOk147 : RowOk Tryd.prog 147 row147 := rowOk_mk ⟨_, Tryd.underlying147, rfl⟩ (.nilIface) (by kernel_rfl) rfl (fun h => by cases h) rfl rfl (fun _ => rfl)
def row148 : Row := ⟨.other, 1, 16, [.nilIface]⟩
theorem rowOk148 : RowOk Tryd.prog 148 row148 := rowOk_mk ⟨_, Tryd.underlying148, rfl⟩ (.nilIface) (by kernel_rfl) rfl (fun h => by cases h) rfl rfl (fun _ => rfl)
def row149 : Row := ⟨.other, 1, 8, [.nilFunc]⟩
theorem rowOk149 : RowOk Tryd.prog 149 row149 := rowOk_mk ⟨_, Tryd.underlying149, rfl⟩ (.nilFunc) (by kernel_rfl) rfl (fun h => by cases h) rfl rfl (fun _ => rfl)
def row150 : Row := ⟨.other, 1, 8, [.nilFunc]⟩
theorem rowOk150 : RowOk Tryd.prog 150 row150 := rowOk_mk ⟨_, Tryd.underlying150, rfl⟩ (.nilFunc) (by kernel_rfl) rfl (fun h => by cases h) rfl rfl (fun _ => rfl)
def row152 : Row := ⟨.other, 1, 8, [.nilFunc]⟩
theorem rowOk152 : RowOk Tryd.prog 152 row152 := rowOk_mk ⟨_, Tryd.underlying152, rfl⟩ (.nilFunc) (by kernel_rfl) rfl (fun h => by cases h) rfl rfl (fun _ => rfl)
def row153 : Row := ⟨.other, 1, 8, [.nilFunc]⟩
theorem rowOk153 : RowOk Tryd.prog 153 row153 := rowOk_mk ⟨_, Tryd.underlying153, rfl⟩ (.nilFunc) (by kernel_rfl) rfl (fun h => by cases h) rfl rfl (fun _ => rfl)
def row154 : Row := ⟨.struct [(0, 3), (1, 3), (2, 52)], 3, 40, [.int .i64 0, .int .i64 0, .slice none 0 0]⟩
theorem rowOk154 : RowOk Tryd.prog 154 row154 := rowOk_mk ⟨_, Tryd.underlying154, rfl⟩ (.agg #[.int .i64 0, .int .i64 0, .slice none 0 0]) (by kernel_rfl) rfl (fun _ => rfl) rfl rfl (fun h => by cases h)
def row155 : Row := ⟨.struct [(0, 3), (1, 3), (2, 52)], 3, 40, [.int .i64 0, .int .i64 0, .slice none 0 0]⟩
theorem rowOk155 : RowOk Tryd.prog 155 row155 := rowOk_mk ⟨_, Tryd.underlying155, rfl⟩ (.agg #[.int .i64 0, .int .i64 0, .slice none 0 0]) (by kernel_rfl) rfl (fun _ => rfl) rfl rfl (fun h => by cases h)
def row156 : Row := ⟨.other, 1, 8, [.nilFunc]⟩
theorem rowOk156 : RowOk Tryd.prog 156 row156 := rowOk_mk ⟨_, Tryd.underlying156, rfl⟩ (.nilFunc) (by kernel_rfl) rfl (fun h => by cases h) rfl rfl (fun _ => rfl)
def row157 : Row := ⟨.struct [(0, 3), (1, 42)], 2, 32, [.int .i64 0, .slice none 0 0]⟩
theorem rowOk157 : RowOk Tryd.prog 157 row157 := rowOk_mk ⟨_, Tryd.underlying157, rfl⟩ (.agg #[.int .i64 0, .slice none 0 0]) (by kernel_rfl) rfl (fun _ => rfl) rfl rfl (fun h => by cases h)
def row158 : Row := ⟨.struct [(0, 3), (1, 42)], 2, 32, [.int .i64 0, .slice none 0 0]⟩
theorem rowOk158 : RowOk Tryd.prog 158 row158 := rowOk_mk ⟨_, Tryd.underlying158, rfl⟩ (.agg #[.int .i64 0, .slice none 0 0]) (by kernel_rfl) rfl (fun _ => rfl) rfl rfl (fun h => by cases h)
def row159 : Row := ⟨.other, 1, 8, [.nilFunc]⟩
theorem rowOk159 : RowOk Tryd.prog 159 row159 := rowOk_mk ⟨_, Tryd.underlying159, rfl⟩ (.nilFunc) (by kernel_rfl) rfl (fun h => by cases h) rfl rfl (fun _ => rfl)
def row160 : Row := ⟨.other, 1, 8, [.nilFunc]⟩
theorem rowOk160 : RowOk Tryd.prog 160 row160 := rowOk_mk ⟨_, Tryd.underlying160, rfl⟩ (.nilFunc) (by kernel_rfl) rfl (fun h => by cases h) rfl rfl (fun _ => rfl)
def row161 : Row := ⟨.other, 1, 8, [.nilFunc]⟩
theorem rowOk161 : RowOk Tryd.prog 161 row161 := rowOk_mk ⟨_, Tryd.underlying161, rfl⟩ (.nilFunc) (by kernel_rfl) rfl (fun h => by cases h) rfl rfl (fun _ => rfl)
def row162 : Row := ⟨.int .u64, 1, 8, [.int .u64 0]⟩
theorem rowOk162 : RowOk Tryd.prog 162 row162 := rowOk_mk Tryd.underlying162 (.int .u64 0) (by kernel_rfl) rfl (fun h => by cases h) rfl rfl (fun _ => rfl)
def row163 : Row := ⟨.arr 16 131, 16, 64, [.int .u32 0, .int .u32 0, .int .u32 0, .int .u32 0, .int .u32 0, .int .u32 0, .int .u32 0, .int .u32 0, .int .u32 0, .int .u32 0, .int .u32 0, .int .u32 0, .int .u32 0, .int .u32 0, .int .u32 0, .int .u32 0]⟩
theorem rowOk163 : RowOk Tryd.prog 163 row163 := rowOk_mk Tryd.underlying163 (.agg #[.int .u32 0, .int .u32 0, .int .u32 0, .int .u32 0, .int .u32 0, .int .u32 0, .int .u32 0, .int .u32 0, .int .u32 0, .int .u32 0, .int .u32 0, .int .u32 0, .int .u32 0, .int .u32 0, .int .u32 0, .int .u32 0]) (by kernel_rfl) rfl (fun _ => rfl) rfl rfl (fun h => by cases h)
def row164 : Row := ⟨.other, 1, 8, [.nilFunc]⟩
theorem rowOk164 : RowOk Tryd.prog 164 row164 := rowOk_mk ⟨_, Tryd.underlying164, rfl⟩ (.nilFunc) (by kernel_rfl) rfl (fun h => by cases h) rfl rfl (fun _ => rfl)
def row165 : Row := ⟨.other, 1, 8, [.nilFunc]⟩
theorem rowOk165 : RowOk Tryd.prog 165 row165 := rowOk_mk ⟨_, Tryd.underlying165, rfl⟩ (.nilFunc) (by kernel_rfl) rfl (fun h => by cases h) rfl rfl (fun _ => rfl)
def row166 : Row := ⟨.other, 1, 8, [.nilFunc]⟩
theorem rowOk166 : RowOk Tryd.prog 166 row166 := rowOk_mk ⟨_, Tryd.underlying166, rfl⟩ (.nilFunc) (by kernel_rfl) rfl (fun h => by cases h) rfl rfl (fun _ => rfl)
def row167 : Row := ⟨.other, 1, 8, [.nilFunc]⟩
theorem rowOk167 : RowOk Tryd.prog 167 row167 := rowOk_mk ⟨_, Tryd.underlying167, rfl⟩ (.nilFunc) (by kernel_rfl) rfl (fun h => by cases h) rfl rfl (fun _ => rfl)
def row168 : Row := ⟨.struct [(0, 17)], 1, 8, [.pointer none]⟩
theorem rowOk168 : RowOk Tryd.prog 168 row168 := rowOk_mk ⟨_, Tryd.underlying168, rfl⟩ (.agg #[.pointer none]) (by kernel_rfl) rfl (fun _ => rfl) rfl rfl (fun h => by cases h)
def row169 : Row := ⟨.struct [(0, 17)], 1, 8, [.pointer none]⟩
theorem rowOk169 : RowOk Tryd.prog 169 row169 := rowOk_mk ⟨_, Tryd.underlying169, rfl⟩ (.agg #[.pointer none]) (by kernel_rfl) rfl (fun _ => rfl) rfl rfl (fun h => by cases h)
def row170 : Row := ⟨.other, 1, 8, [.pointer none]⟩
theorem rowOk170 : RowOk Tryd.prog 170 row170 := rowOk_mk ⟨_, Tryd.underlying170, rfl⟩ (.pointer none) (by kernel_rfl) rfl (fun h => by cases h) rfl rfl (fun _ => rfl)
def row171 : Row := ⟨.other, 1, 16, [.nilIface]⟩
theorem rowOk171 : RowOk Tryd.prog 171 row171 := rowOk_mk ⟨_, Tryd.underlying171, rfl⟩ (.nilIface) (by kernel_rfl) rfl (fun h => by cases h) rfl rfl (fun _ => rfl)
def row173 : Row := ⟨.other, 1, 8, [.nilFunc]⟩
theorem rowOk173 : RowOk Tryd.prog 173 row173 := rowOk_mk ⟨_, Tryd.underlying173, rfl⟩ (.nilFunc) (by kernel_rfl) rfl (fun h => by cases h) rfl rfl (fun _ => rfl)
def row174 : Row := ⟨.other, 1, 16, [.nilIface]⟩
theorem rowOk174 : RowOk Tryd.prog 174 row174 := rowOk_mk ⟨_, Tryd.underlying174, rfl⟩ (.nilIface) (by kernel_rfl) rfl (fun h => by cases h) rfl rfl (fun _ => rfl)
def row175 : Row := ⟨.other, 1, 8, [.nilFunc]⟩
theorem rowOk175 : RowOk Tryd.prog 175 row175 := rowOk_mk ⟨_, Tryd.underlying175, rfl⟩ (.nilFunc) (by kernel_rfl) rfl (fun h => by cases h) rfl rfl (fun _ => rfl)
def row176 : Row := ⟨.other, 1, 16, [.nilIface]⟩
theorem rowOk176 : RowOk Tryd.prog 176 row176 := rowOk_mk ⟨_, Tryd.underlying176, rfl⟩ (.nilIface) (by kernel_rfl) rfl (fun h => by cases h) rfl rfl (fun _ => rfl)
def row177 : Row := ⟨.slice 119, 1, 24, [.slice none 0 0]⟩
theorem rowOk177 : RowOk Tryd.prog 177 row177 := rowOk_mk Tryd.underlying177 (.slice none 0 0) (by kernel_rfl) rfl (fun h => by cases h) rfl rfl (fun _ => rfl)
def row178 : Row := ⟨.other, 1, 8, [.nilFunc]⟩
theorem rowOk178 : RowOk Tryd.prog 178 row178 := rowOk_mk ⟨_, Tryd.underlying178, rfl⟩ (.nilFunc) (by kernel_rfl) rfl (fun h => by cases h) rfl rfl (fun _ => rfl)
def row179 : Row := ⟨.other, 1, 8, [.nilFunc]⟩
theorem rowOk179 : RowOk Tryd.prog 179 row179 := rowOk_mk ⟨_, Tryd.underlying179, rfl⟩ (.nilFunc) (by kernel_rfl) rfl (fun h => by cases h) rfl rfl (fun _ => rfl)
def row180 : Row := ⟨.other, 1, 8, [.nilFunc]⟩
theorem rowOk180 : RowOk Tryd.prog 180 row180 := rowOk_mk ⟨_, Tryd.underlying180, rfl⟩ (.nilFunc) (by kernel_rfl) rfl (fun h => by cases h) rfl rfl (fun _ => rfl)
def row181 : Row := ⟨.other, 1, 8, [.nilFunc]⟩
theorem rowOk181 : RowOk Tryd.prog 181 row181 := rowOk_mk ⟨_, Tryd.underlying181, rfl⟩ (.nilFunc) (by kernel_rfl) rfl (fun h => by cases h) rfl rfl (fun _ => rfl)
def row182 : Row := ⟨.slice 4, 1, 24, [.slice none 0 0]⟩
theorem rowOk182 : RowOk Tryd.prog 182 row182 := rowOk_mk Tryd.underlying182 (.slice none 0 0) (by kernel_rfl) rfl (fun h => by cases h) rfl rfl (fun _ => rfl)
def row183 : Row := ⟨.other, 1, 8, [.nilFunc]⟩
theorem rowOk183 : RowOk Tryd.prog 183 row183 := rowOk_mk ⟨_, Tryd.underlying183, rfl⟩ (.nilFunc) (by kernel_rfl) rfl (fun h => by cases h) rfl rfl (fun _ => rfl)
def row184 : Row := ⟨.other, 1, 8, [.nilFunc]⟩
theorem rowOk184 : RowOk Tryd.prog 184 row184 := rowOk_mk ⟨_, Tryd.underlying184, rfl⟩ (.nilFunc) (by kernel_rfl) rfl (fun h => by cases h) rfl rfl (fun _ => rfl)
def row185 : Row := ⟨.other, 1, 8, [.nilFunc]⟩
theorem rowOk185 : RowOk Tryd.prog 185 row185 := rowOk_mk ⟨_, Tryd.underlying185, rfl⟩ (.nilFunc) (by kernel_rfl) rfl (fun h => by cases h) rfl rfl (fun _ => rfl)
def row186 : Row := ⟨.other, 1, 8, [.pointer none]⟩
theorem rowOk186 : RowOk Tryd.prog 186 row186 := rowOk_mk ⟨_, Tryd.underlying186, rfl⟩ (.pointer none) (by kernel_rfl) rfl (fun h => by cases h) rfl rfl (fun _ => rfl)
def row187 : Row := ⟨.other, 1, 8, [.nilFunc]⟩
theorem rowOk187 : RowOk Tryd.prog 187 row187 := rowOk_mk ⟨_, Tryd.underlying187, rfl⟩ (.nilFunc) (by kernel_rfl) rfl (fun h => by cases h) rfl rfl (fun _ => rfl)
def row193 : Row := ⟨.int .u8, 1, 1, [.int .u8 0]⟩
theorem rowOk193 : RowOk Tryd.prog 193 row193 := rowOk_mk Tryd.underlying193 (.int .u8 0) (by kernel_rfl) rfl (fun h => by cases h) rfl rfl (fun _ => rfl)
def row194 : Row := ⟨.int .u8, 1, 1, [.int .u8 0]⟩
theorem rowOk194 : RowOk Tryd.prog 194 row194 := rowOk_mk Tryd.underlying194 (.int .u8 0) (by kernel_rfl) rfl (fun h => by cases h) rfl rfl (fun _ => rfl)
def row195 : Row := ⟨.other, 1, 8, [.nilFunc]⟩
theorem rowOk195 : RowOk Tryd.prog 195 row195 := rowOk_mk ⟨_, Tryd.underlying195, rfl⟩ (.nilFunc) (by kernel_rfl) rfl (fun h => by cases h) rfl rfl (fun _ => rfl)
def row196 : Row := ⟨.other, 1, 8, [.pointer none]⟩
theorem rowOk196 : RowOk Tryd.prog 196 row196 := rowOk_mk ⟨_, Tryd.underlying196, rfl⟩ (.pointer none) (by kernel_rfl) rfl (fun h => by cases h) rfl rfl (fun _ => rfl)
def row197 : Row := ⟨.int .i32, 1, 4, [.int .i32 0]⟩
theorem rowOk197 : RowOk Tryd.prog 197 row197 := rowOk_mk Tryd.underlying197 (.int .i32 0) (by kernel_rfl) rfl (fun h => by cases h) rfl rfl (fun _ => rfl)
def row198 : Row := ⟨.int .i32, 1, 4, [.int .i32 0]⟩
theorem rowOk198 : RowOk Tryd.prog 198 row198 := rowOk_mk Tryd.underlying198 (.int .i32 0) (by kernel_rfl) rfl (fun h => by cases h) rfl rfl (fun _ => rfl)
def row201 : Row := ⟨.other, 1, 8, [.nilFunc]⟩
theorem rowOk201 : RowOk Tryd.prog 201 row201 := rowOk_mk ⟨_, Tryd.underlying201, rfl⟩ (.nilFunc) (by kernel_rfl) rfl (fun h => by cases h) rfl rfl (fun _ => rfl)
def row202 : Row := ⟨.other, 1, 8, [.nilFunc]⟩
theorem rowOk202 : RowOk Tryd.prog 202 row202 := rowOk_mk ⟨_, Tryd.underlying202, rfl⟩ (.nilFunc) (by kernel_rfl) rfl (fun h => by cases h) rfl rfl (fun _ => rfl)
def row203 : Row := ⟨.slice 9, 1, 24, [.slice none 0 0]⟩
theorem rowOk203 : RowOk Tryd.prog 203 row203 := rowOk_mk Tryd.underlying203 (.slice none 0 0) (by kernel_rfl) rfl (fun h => by cases h) rfl rfl (fun _ => rfl)
def row204 : Row := ⟨.other, 1, 8, [.nilFunc]⟩
theorem rowOk204 : RowOk Tryd.prog 204 row204 := rowOk_mk ⟨_, Tryd.underlying204, rfl⟩ (.nilFunc) (by kernel_rfl) rfl (fun h => by cases h) rfl rfl (fun _ => rfl)
def row205 : Row := ⟨.other, 1, 8, [.nilFunc]⟩
theorem rowOk205 : RowOk Tryd.prog 205 row205 := rowOk_mk ⟨_, Tryd.underlying205, rfl⟩ (.nilFunc) (by kernel_rfl) rfl (fun h => by cases h) rfl rfl (fun _ => rfl)
def row206 : Row := ⟨.other, 1, 8, [.nilFunc]⟩
theorem rowOk206 : RowOk Tryd.prog 206 row206 := rowOk_mk ⟨_, Tryd.underlying206, rfl⟩ (.nilFunc) (by kernel_rfl) rfl (fun h => by cases h) rfl rfl (fun _ => rfl)
def row207 : Row := ⟨.other, 1, 8, [.nilFunc]⟩
theorem rowOk207 : RowOk Tryd.prog 207 row207 := rowOk_mk ⟨_, Tryd.underlying207, rfl⟩ (.nilFunc) (by kernel_rfl) rfl (fun h => by cases h) rfl rfl (fun _ => rfl)
def row208 : Row := ⟨.other, 1, 8, [.nilFunc]⟩
theorem rowOk208 : RowOk Tryd.prog 208 row208 := rowOk_mk ⟨_, Tryd.underlying208, rfl⟩ (.nilFunc) (by kernel_rfl) rfl (fun h => by cases h) rfl rfl (fun _ => rfl)
def row209 : Row := ⟨.other, 1, 8, [.nilFunc]⟩
theorem rowOk209 : RowOk Tryd.prog 209 row209 := rowOk_mk ⟨_, Tryd.underlying209, rfl⟩ (.nilFunc) (by kernel_rfl) rfl (fun h => by cases h) rfl rfl (fun _ => rfl)
def row210 : Row := ⟨.other, 1, 8, [.nilFunc]⟩
theorem rowOk210 : RowOk Tryd.prog 210 row210 := rowOk_mk ⟨_, Tryd.underlying210, rfl⟩ (.nilFunc) (by kernel_rfl) rfl (fun h => by cases h) rfl rfl (fun _ => rfl)
def row211 : Row := ⟨.other, 1, 8, [.nilFunc]⟩
theorem rowOk211 : RowOk Tryd.prog 211 row211 := rowOk_mk ⟨_, Tryd.underlying211, rfl⟩ (.nilFunc) (by kernel_rfl) rfl (fun h => by cases h) rfl rfl (fun _ => rfl)
def row212 : Row := ⟨.other, 1, 8, [.nilFunc]⟩
theorem rowOk212 : RowOk Tryd.prog 212 row212 := rowOk_mk ⟨_, Tryd.underlying212, rfl⟩ (.nilFunc) (by kernel_rfl) rfl (fun h => by cases h) rfl rfl (fun _ => rfl)
def row213 : Row := ⟨.struct [(0, 9), (1, 194)], 2, 24, [.string ⟨#[]⟩, .int .u8 0]⟩
theorem rowOk213 : RowOk Tryd.prog 213 row213 := rowOk_mk ⟨_, Tryd.underlying213, rfl⟩ (.agg #[.string ⟨#[]⟩, .int .u8 0]) (by kernel_rfl) rfl (fun _ => rfl) rfl rfl (fun h => by cases h)
def row214 : Row := ⟨.struct [(0, 9), (1, 194)], 2, 24, [.string ⟨#[]⟩, .int .u8 0]⟩
theorem rowOk214 : RowOk Tryd.prog 214 row214 := rowOk_mk ⟨_, Tryd.underlying214, rfl⟩ (.agg #[.string ⟨#[]⟩, .int .u8 0]) (by kernel_rfl) rfl (fun _ => rfl) rfl rfl (fun h => by cases h)
def row215 : Row := ⟨.struct [(0, 9)], 1, 16, [.string ⟨#[]⟩]⟩
theorem rowOk215 : RowOk Tryd.prog 215 row215 := rowOk_mk ⟨_, Tryd.underlying215, rfl⟩ (.agg #[.string ⟨#[]⟩]) (by kernel_rfl) rfl (fun _ => rfl) rfl rfl (fun h => by cases h)
def row216 : Row := ⟨.struct [(0, 9)], 1, 16, [.string ⟨#[]⟩]⟩
theorem rowOk216 : RowOk Tryd.prog 216 row216 := rowOk_mk ⟨_, Tryd.underlying216, rfl⟩ (.agg #[.string ⟨#[]⟩]) (by kernel_rfl) rfl (fun _ => rfl) rfl rfl (fun h => by cases h)
def row218 : Row := ⟨.other, 1, 8, [.pointer none]⟩
theorem rowOk218 : RowOk Tryd.prog 218 row218 := rowOk_mk ⟨_, Tryd.underlying218, rfl⟩ (.pointer none) (by kernel_rfl) rfl (fun h => by cases h) rfl rfl (fun _ => rfl)
def row219 : Row := ⟨.other, 1, 8, [.pointer none]⟩
theorem rowOk219 : RowOk Tryd.prog 219 row219 := rowOk_mk ⟨_, Tryd.underlying219, rfl⟩ (.pointer none) (by kernel_rfl) rfl (fun h => by cases h) rfl rfl (fun _ => rfl)
def row220 : Row := ⟨.struct [(0, 25)], 1, 24, [.slice none 0 0]⟩
theorem rowOk220 : RowOk Tryd.prog 220 row220 := rowOk_mk ⟨_, Tryd.underlying220, rfl⟩ (.agg #[.slice none 0 0]) (by kernel_rfl) rfl (fun _ => rfl) rfl rfl (fun h => by cases h)
def row221 : Row := ⟨.other, 1, 8, [.nilFunc]⟩
theorem rowOk221 : RowOk Tryd.prog 221 row221 := rowOk_mk ⟨_, Tryd.underlying221, rfl⟩ (.nilFunc) (by kernel_rfl) rfl (fun h => by cases h) rfl rfl (fun _ => rfl)
def row222 : Row := ⟨.int .u16, 1, 2, [.int .u16 0]⟩
theorem rowOk222 : RowOk Tryd.prog 222 row222 := rowOk_mk Tryd.underlying222 (.int .u16 0) (by kernel_rfl) rfl (fun h => by cases h) rfl rfl (fun _ => rfl)
def row223 : Row := ⟨.struct [(0, 197), (1, 222), (2, 222), (3, 131), (4, 131)], 5, 16, [.int .i32 0, .int .u16 0, .int .u16 0, .int .u32 0, .int .u32 0]⟩
theorem rowOk223 : RowOk Tryd.prog 223 row223 := rowOk_mk ⟨_, Tryd.underlying223, rfl⟩ (.agg #[.int .i32 0, .int .u16 0, .int .u16 0, .int .u32 0, .int .u32 0]) (by kernel_rfl) rfl (fun _ => rfl) rfl rfl (fun h => by cases h)
def row224 : Row := ⟨.struct [(0, 197), (1, 222), (2, 222), (3, 131), (4, 131)], 5, 16, [.int .i32 0, .int .u16 0, .int .u16 0, .int .u32 0, .int .u32 0]⟩
theorem rowOk224 : RowOk Tryd.prog 224 row224 := rowOk_mk ⟨_, Tryd.underlying224, rfl⟩ (.agg #[.int .i32 0, .int .u16 0, .int .u16 0, .int .u32 0, .int .u32 0]) (by kernel_rfl) rfl (fun _ => rfl) rfl rfl (fun h => by cases h)
def row225 : Row := ⟨.slice 228, 1, 24, [.slice none 0 0]⟩
theorem rowOk225 : RowOk Tryd.prog 225 row225 := rowOk_mk Tryd.underlying225 (.slice none 0 0) (by kernel_rfl) rfl (fun h => by cases h) rfl rfl (fun _ => rfl)
def row226 : Row := ⟨.int .i32, 1, 4, [.int .i32 0]⟩
theorem rowOk226 : RowOk Tryd.prog 226 row226 := rowOk_mk Tryd.underlying226 (.int .i32 0) (by kernel_rfl) rfl (fun h => by cases h) rfl rfl (fun _ => rfl)
def row227 : Row := ⟨.struct [(0, 197), (1, 198), (2, 226), (3, 226)], 4, 16, [.int .i32 0, .int .i32 0, .int .i32 0, .int .i32 0]⟩
theorem rowOk227 : RowOk Tryd.prog 227 row227 := rowOk_mk ⟨_, Tryd.underlying227, rfl⟩ (.agg #[.int .i32 0, .int .i32 0, .int .i32 0, .int .i32 0]) (by kernel_rfl) rfl (fun _ => rfl) rfl rfl (fun h => by cases h)
def row228 : Row := ⟨.struct [(0, 197), (1, 198), (2, 226), (3, 226)], 4, 16, [.int .i32 0, .int .i32 0, .int .i32 0, .int .i32 0]⟩
theorem rowOk228 : RowOk Tryd.prog 228 row228 := rowOk_mk ⟨_, Tryd.underlying228, rfl⟩ (.agg #[.int .i32 0, .int .i32 0, .int .i32 0, .int .i32 0]) (by kernel_rfl) rfl (fun _ => rfl) rfl rfl (fun h => by cases h)
def row229 : Row := ⟨.other, 1, 8, [.nilFunc]⟩
theorem rowOk229 : RowOk Tryd.prog 229 row229 := rowOk_mk ⟨_, Tryd.underlying229, rfl⟩ (.nilFunc) (by kernel_rfl) rfl (fun h => by cases h) rfl rfl (fun _ => rfl)
def AllOk : List (Nat × Row) → Prop
  | [] => True
  | p :: l => RowOk Tryd.prog p.1 p.2 ∧ AllOk l
theorem allOk_mem : ∀ {l : List (Nat × Row)}, AllOk l → ∀ p, p ∈ l → RowOk Tryd.prog p.1 p.2
  | [], _, _, h => by cases h
  | q :: l, k, p, h => (List.mem_cons.1 h).elim (fun e => e ▸ k.1) fun h => allOk_mem k.2 p h
theorem allOk_app : ∀ {l l' : List (Nat × Row)}, AllOk l → AllOk l' → AllOk (l ++ l')
  | [], _, _, h => h
  | _ :: _, _, h, k => ⟨h.1, allOk_app h.2 k⟩
def tab0 : List (Nat × Row) := [(1, row1), (2, row2), (3, row3), (4, row4), (5, row5), (6, row6), (7, row7), (8, row8), (9, row9), (10, row10), (11, row11), (12, row12), (13, row13), (14, row14), (15, row15), (16, row16), (17, row17), (18, row18), (19, row19), (20, row20)]
theorem tabOk0 : AllOk tab0 := ⟨rowOk1, rowOk2, rowOk3, rowOk4, rowOk5, rowOk6, rowOk7, rowOk8, rowOk9, rowOk10, rowOk11, rowOk12, rowOk13, rowOk14, rowOk15, rowOk16, rowOk17, rowOk18, rowOk19, rowOk20, trivial⟩
def tab1 : List (Nat × Row) := [(21, row21), (22, row22), (23, row23), (24, row24), (25, row25), (26, row26), (27, row27), (28, row28), (29, row29), (30, row30), (31, row31), (32, row32), (33, row33), (34, row34), (35, row35), (36, row36), (37, row37), (38, row38), (39, row39), (40, row40)]
theorem tabOk1 : AllOk tab1 := ⟨rowOk21, rowOk22, rowOk23, rowOk24, rowOk25, rowOk26, rowOk27, rowOk28, rowOk29, rowOk30, rowOk31, rowOk32, rowOk33, rowOk34, rowOk35, rowOk36, rowOk37, rowOk38, rowOk39, rowOk40, trivial⟩
def tab2 : List (Nat × Row) := [(41, row41), (42, row42), (43, row43), (44, row44), (45, row45), (46, row46), (47, row47), (48, row48), (49, row49), (50, row50), (51, row51), (52, row52), (53, row53), (54, row54), (55, row55), (56, row56), (57, row57), (58, row58), (59, row59), (60, row60)]
theorem tabOk2 : AllOk tab2 := ⟨rowOk41, rowOk42, rowOk43, rowOk44, rowOk45, rowOk46, rowOk47, rowOk48, rowOk49, rowOk50, rowOk51, rowOk52, rowOk53, rowOk54, rowOk55, rowOk56, rowOk57, rowOk58, rowOk59, rowOk60, trivial⟩
def tab3 : List (Nat × Row) := [(61, row61), (62, row62), (63, row63), (64, row64), (65, row65), (66, row66), (67, row67), (68, row68), (69, row69), (70, row70), (71, row71), (73, row73), (75, row75), (76, row76), (77, row77), (78, row78), (79, row79), (80, row80), (81, row81), (82, row82)]
theorem tabOk3 : AllOk tab3 := ⟨rowOk61, rowOk62, rowOk63, rowOk64, rowOk65, rowOk66, rowOk67, rowOk68, rowOk69, rowOk70, rowOk71, rowOk73, rowOk75, rowOk76, rowOk77, rowOk78, rowOk79, rowOk80, rowOk81, rowOk82, trivial⟩
def tab4 : List (Nat × Row) := [(83, row83), (84, row84), (85, row85), (86, row86), (87, row87), (88, row88), (89, row89), (90, row90), (91, row91), (92, row92), (93, row93), (94, row94), (95, row95), (96, row96), (97, row97), (98, row98), (99, row99), (100, row100), (101, row101), (102, row102)]
theorem tabOk4 : AllOk tab4 := ⟨rowOk83, rowOk84, rowOk85, rowOk86, rowOk87, rowOk88, rowOk89, rowOk90, rowOk91, rowOk92, rowOk93, rowOk94, rowOk95, rowOk96, rowOk97, rowOk98, rowOk99, rowOk100, rowOk101, rowOk102, trivial⟩
def tab5 : List (Nat × Row) := [(103, row103), (104, row104), (105, row105), (106, row106), (107, row107), (108, row108), (109, row109), (110, row110), (111, row111), (112, row112), (113, row113), (114, row114), (115, row115), (116, row116), (117, row117), (118, row118), (119, row119), (120, row120), (121, row121), (122, row122)]
theorem tabOk5 : AllOk tab5 := ⟨rowOk103, rowOk104, rowOk105, rowOk106, rowOk107, rowOk108, rowOk109, rowOk110, rowOk111, rowOk112, rowOk113, rowOk114, rowOk115, rowOk116, rowOk117, rowOk118, rowOk119, rowOk120, rowOk121, rowOk122, trivial⟩
def tab6 : List (Nat × Row) := [(123, row123), (124, row124), (125, row125), (126, row126), (127, row127), (128, row128), (129, row129), (130, row130), (131, row131), (132, row132), (133, row133), (134, row134), (135, row135), (136, row136), (137, row137), (138, row138), (139, row139), (140, row140), (141, row141), (142, row142)]
theorem tabOk6 : AllOk tab6 := ⟨rowOk123, rowOk124, rowOk125, rowOk126, rowOk127, rowOk128, rowOk129, rowOk130, rowOk131, rowOk132, rowOk133, rowOk134, rowOk135, rowOk136, rowOk137, rowOk138, rowOk139, rowOk140, rowOk141, rowOk142, trivial⟩
def tab7 : List (Nat × Row) := [(143, row143), (144, row144), (145, row145), (146, row146), (147, row147), (148, row148), (149, row149), (150, row150), (152, row152), (153, row153), (154, row154), (155, row155), (156, row156), (157, row157), (158, row158), (159, row159), (160, row160), (161, row161), (162, row162), (163, row163)]
theorem tabOk7 : AllOk tab7 := ⟨rowOk143, rowOk144, rowOk145, rowOk146, rowOk147, rowOk148, rowOk149, rowOk150, rowOk152, rowOk153, rowOk154, rowOk155, rowOk156, rowOk157, rowOk158, rowOk159, rowOk160, rowOk161, rowOk162, rowOk163, trivial⟩
def tab8 : List (Nat × Row) := [(164, row164), (165, row165), (166, row166), (167, row167), (168, row168), (169, row169), (170, row170), (171, row171), (173, row173), (174, row174), (175, row175), (176, row176), (177, row177), (178, row178), (179, row179), (180, row180), (181, row181), (182, row182), (183, row183), (184, row184)]
theorem tabOk8 : AllOk tab8 := ⟨rowOk164, rowOk165, rowOk166, rowOk167, rowOk168, rowOk169, rowOk170, rowOk171, rowOk173, rowOk174, rowOk175, rowOk176, rowOk177, rowOk178, rowOk179, rowOk180, rowOk181, rowOk182, rowOk183, rowOk184, trivial⟩
def tab9 : List (Nat × Row) := [(185, row185), (186, row186), (187, row187), (193, row193), (194, row194), (195, row195), (196, row196), (197, row197), (198, row198), (201, row201), (202, row202), (203, row203), (204, row204), (205, row205), (206, row206), (207, row207), (208, row208), (209, row209), (210, row210), (211, row211)]
theorem tabOk9 : AllOk tab9 := ⟨rowOk185, rowOk186, rowOk187, rowOk193, rowOk194, rowOk195, rowOk196, rowOk197, rowOk198, rowOk201, rowOk202, rowOk203, rowOk204, rowOk205, rowOk206, rowOk207, rowOk208, rowOk209, rowOk210, rowOk211, trivial⟩
def tab10 : List (Nat × Row) := [(212, row212), (213, row213), (214, row214), (215, row215), (216, row216), (218, row218), (219, row219), (220, row220), (221, row221), (222, row222), (223, row223), (224, row224), (225, row225), (226, row226), (227, row227), (228, row228), (229, row229)]
theorem tabOk10 : AllOk tab10 := ⟨rowOk212, rowOk213, rowOk214, rowOk215, rowOk216, rowOk218, rowOk219, rowOk220, rowOk221, rowOk222, rowOk223, rowOk224, rowOk225, rowOk226, rowOk227, rowOk228, rowOk229, trivial⟩
def tab : List (Nat × Row) := tab0 ++ (tab1 ++ (tab2 ++ (tab3 ++ (tab4 ++ (tab5 ++ (tab6 ++ (tab7 ++ (tab8 ++ (tab9 ++ (tab10))))))))))
def Γ (t : Nat) : Option Row := look t tab
theorem tabOk : TabOk Tryd.prog Γ := fun t r h => allOk_mem (show AllOk tab from (allOk_app tabOk0 (allOk_app tabOk1 (allOk_app tabOk2 (allOk_app tabOk3 (allOk_app tabOk4 (allOk_app tabOk5 (allOk_app tabOk6 (allOk_app tabOk7 (allOk_app tabOk8 (allOk_app tabOk9 tabOk10))))))))))) _ (look_mem h)
@[go_sem] theorem Γ1 : Γ 1 = some ⟨.other, 1, 8, [.nilFunc]⟩ := by kernel_rfl
@[go_sem] theorem Γ2 : Γ 2 = some ⟨.int .i64, 1, 8, [.int .i64 0]⟩ := by kernel_rfl
@[go_sem] theorem Γ3 : Γ 3 = some ⟨.int .i64, 1, 8, [.int .i64 0]⟩ := by kernel_rfl
@[go_sem] theorem Γ4 : Γ 4 = some ⟨.bool, 1, 1, [.bool false]⟩ := by kernel_rfl
@[go_sem] theorem Γ5 : Γ 5 = some ⟨.int .u8, 1, 1, [.int .u8 0]⟩ := by kernel_rfl
@[go_sem] theorem Γ6 : Γ 6 = some ⟨.int .u8, 1, 1, [.int .u8 0]⟩ := by kernel_rfl
@[go_sem] theorem Γ7 : Γ 7 = some ⟨.struct [(0, 2), (1, 3), (2, 4), (3, 6)], 4, 24, [.int .i64 0, .int .i64 0, .bool false, .int .u8 0]⟩ := by kernel_rfl
@[go_sem] theorem Γ8 : Γ 8 = some ⟨.struct [(0, 2), (1, 3), (2, 4), (3, 6)], 4, 24, [.int .i64 0, .int .i64 0, .bool false, .int .u8 0]⟩ := by kernel_rfl
@[go_sem] theorem Γ9 : Γ 9 = some ⟨.str, 1, 16, [.string ⟨#[]⟩]⟩ := by kernel_rfl
@[go_sem] theorem Γ10 : Γ 10 = some ⟨.str, 1, 16, [.string ⟨#[]⟩]⟩ := by kernel_rfl
@[go_sem] theorem Γ11 : Γ 11 = some ⟨.str, 1, 16, [.string ⟨#[]⟩]⟩ := by kernel_rfl
@[go_sem] theorem Γ12 : Γ 12 = some ⟨.int .u64, 1, 8, [.int .u64 0]⟩ := by kernel_rfl
@[go_sem] theorem Γ13 : Γ 13 = some ⟨.struct [(0, 9), (1, 12)], 2, 24, [.string ⟨#[]⟩, .int .u64 0]⟩ := by kernel_rfl
@[go_sem] theorem Γ14 : Γ 14 = some ⟨.struct [(0, 9), (1, 12)], 2, 24, [.string ⟨#[]⟩, .int .u64 0]⟩ := by kernel_rfl
@[go_sem] theorem Γ15 : Γ 15 = some ⟨.other, 1, 8, [.pointer none]⟩ := by kernel_rfl
@[go_sem] theorem Γ16 : Γ 16 = some ⟨.other, 1, 8, [.pointer none]⟩ := by kernel_rfl
@[go_sem] theorem Γ17 : Γ 17 = some ⟨.other, 1, 8, [.pointer none]⟩ := by kernel_rfl
@[go_sem] theorem Γ18 : Γ 18 = some ⟨.struct [(0, 17)], 1, 8, [.pointer none]⟩ := by kernel_rfl
@[go_sem] theorem Γ19 : Γ 19 = some ⟨.struct [(0, 17)], 1, 8, [.pointer none]⟩ := by kernel_rfl
@[go_sem] theorem Γ20 : Γ 20 = some ⟨.other, 1, 16, [.nilIface]⟩ := by kernel_rfl
@[go_sem] theorem Γ21 : Γ 21 = some ⟨.int .i32, 1, 4, [.int .i32 0]⟩ := by kernel_rfl
@[go_sem] theorem Γ22 : Γ 22 = some ⟨.struct [(0, 3), (1, 3), (2, 3), (3, 3), (4, 9), (5, 3)], 6, 56, [.int .i64 0, .int .i64 0, .int .i64 0, .int .i64 0, .string ⟨#[]⟩, .int .i64 0]⟩ := by kernel_rfl
@[go_sem] theorem Γ23 : Γ 23 = some ⟨.struct [(0, 3), (1, 3), (2, 3), (3, 3), (4, 9), (5, 3)], 6, 56, [.int .i64 0, .int .i64 0, .int .i64 0, .int .i64 0, .string ⟨#[]⟩, .int .i64 0]⟩ := by kernel_rfl
@[go_sem] theorem Γ24 : Γ 24 = some ⟨.other, 1, 8, [.nilFunc]⟩ := by kernel_rfl
@[go_sem] theorem Γ25 : Γ 25 = some ⟨.slice 5, 1, 24, [.slice none 0 0]⟩ := by kernel_rfl
@[go_sem] theorem Γ26 : Γ 26 = some ⟨.other, 1, 8, [.nilFunc]⟩ := by kernel_rfl
@[go_sem] theorem Γ27 : Γ 27 = some ⟨.struct [(0, 3), (1, 3), (2, 3), (3, 3), (4, 9), (5, 3)], 6, 56, [.int .i64 0, .int .i64 0, .int .i64 0, .int .i64 0, .string ⟨#[]⟩, .int .i64 0]⟩ := by kernel_rfl
@[go_sem] theorem Γ28 : Γ 28 = some ⟨.other, 1, 8, [.nilFunc]⟩ := by kernel_rfl
@[go_sem] theorem Γ29 : Γ 29 = some ⟨.other, 1, 8, [.nilFunc]⟩ := by kernel_rfl
@[go_sem] theorem Γ30 : Γ 30 = some ⟨.other, 1, 8, [.nilFunc]⟩ := by kernel_rfl
@[go_sem] theorem Γ31 : Γ 31 = some ⟨.other, 1, 8, [.nilFunc]⟩ := by kernel_rfl
@[go_sem] theorem Γ32 : Γ 32 = some ⟨.struct [(0, 3), (1, 3), (2, 3), (3, 9), (4, 9), (5, 9)], 6, 72, [.int .i64 0, .int .i64 0, .int .i64 0, .string ⟨#[]⟩, .string ⟨#[]⟩, .string ⟨#[]⟩]⟩ := by kernel_rfl
@[go_sem] theorem Γ33 : Γ 33 = some ⟨.struct [(0, 3), (1, 3), (2, 3), (3, 9), (4, 9), (5, 9)], 6, 72, [.int .i64 0, .int .i64 0, .int .i64 0, .string ⟨#[]⟩, .string ⟨#[]⟩, .string ⟨#[]⟩]⟩ := by kernel_rfl
@[go_sem] theorem Γ34 : Γ 34 = some ⟨.other, 1, 8, [.nilFunc]⟩ := by kernel_rfl
@[go_sem] theorem Γ35 : Γ 35 = some ⟨.other, 1, 8, [.nilFunc]⟩ := by kernel_rfl
@[go_sem] theorem Γ36 : Γ 36 = some ⟨.struct [(0, 3), (1, 3), (2, 3), (3, 9), (4, 9), (5, 9)], 6, 72, [.int .i64 0, .int .i64 0, .int .i64 0, .string ⟨#[]⟩, .string ⟨#[]⟩, .string ⟨#[]⟩]⟩ := by kernel_rfl
@[go_sem] theorem Γ37 : Γ 37 = some ⟨.other, 1, 8, [.nilFunc]⟩ := by kernel_rfl
@[go_sem] theorem Γ38 : Γ 38 = some ⟨.other, 1, 8, [.nilFunc]⟩ := by kernel_rfl
@[go_sem] theorem Γ39 : Γ 39 = some ⟨.slice 94, 1, 24, [.slice none 0 0]⟩ := by kernel_rfl
@[go_sem] theorem Γ40 : Γ 40 = some ⟨.other, 1, 8, [.nilFunc]⟩ := by kernel_rfl
@[go_sem] theorem Γ41 : Γ 41 = some ⟨.other, 1, 8, [.nilFunc]⟩ := by kernel_rfl
@[go_sem] theorem Γ42 : Γ 42 = some ⟨.slice 100, 1, 24, [.slice none 0 0]⟩ := by kernel_rfl
@[go_sem] theorem Γ43 : Γ 43 = some ⟨.other, 1, 8, [.nilFunc]⟩ := by kernel_rfl
@[go_sem] theorem Γ44 : Γ 44 = some ⟨.other, 1, 8, [.nilFunc]⟩ := by kernel_rfl
@[go_sem] theorem Γ45 : Γ 45 = some ⟨.other, 1, 8, [.nilFunc]⟩ := by kernel_rfl
@[go_sem] theorem Γ46 : Γ 46 = some ⟨.other, 1, 8, [.nilFunc]⟩ := by kernel_rfl
@[go_sem] theorem Γ47 : Γ 47 = some ⟨.slice 92, 1, 24, [.slice none 0 0]⟩ := by kernel_rfl
@[go_sem] theorem Γ48 : Γ 48 = some ⟨.struct [(0, 3), (1, 3), (2, 3), (3, 3), (4, 3), (5, 3), (6, 3), (7, 3), (8, 3), (9, 47)], 10, 96, [.int .i64 0, .int .i64 0, .int .i64 0, .int .i64 0, .int .i64 0, .int .i64 0, .int .i64 0, .int .i64 0, .int .i64 0, .slice none 0 0]⟩ := by kernel_rfl
@[go_sem] theorem Γ49 : Γ 49 = some ⟨.struct [(0, 3), (1, 3), (2, 3), (3, 3), (4, 3), (5, 3), (6, 3), (7, 3), (8, 3), (9, 47)], 10, 96, [.int .i64 0, .int .i64 0, .int .i64 0, .int .i64 0, .int .i64 0, .int .i64 0, .int .i64 0, .int .i64 0, .int .i64 0, .slice none 0 0]⟩ := by kernel_rfl
@[go_sem] theorem Γ50 : Γ 50 = some ⟨.other, 1, 8, [.nilFunc]⟩ := by kernel_rfl
@[go_sem] theorem Γ51 : Γ 51 = some ⟨.other, 1, 8, [.nilFunc]⟩ := by kernel_rfl
@[go_sem] theorem Γ52 : Γ 52 = some ⟨.slice 98, 1, 24, [.slice none 0 0]⟩ := by kernel_rfl
@[go_sem] theorem Γ53 : Γ 53 = some ⟨.struct [(0, 3), (1, 3), (2, 3), (3, 3), (4, 3), (5, 3), (6, 3), (7, 3), (8, 3), (9, 52)], 10, 96, [.int .i64 0, .int .i64 0, .int .i64 0, .int .i64 0, .int .i64 0, .int .i64 0, .int .i64 0, .int .i64 0, .int .i64 0, .slice none 0 0]⟩ := by kernel_rfl
@[go_sem] theorem Γ54 : Γ 54 = some ⟨.struct [(0, 3), (1, 3), (2, 3), (3, 3), (4, 3), (5, 3), (6, 3), (7, 3), (8, 3), (9, 52)], 10, 96, [.int .i64 0, .int .i64 0, .int .i64 0, .int .i64 0, .int .i64 0, .int .i64 0, .int .i64 0, .int .i64 0, .int .i64 0, .slice none 0 0]⟩ := by kernel_rfl
@[go_sem] theorem Γ55 : Γ 55 = some ⟨.other, 1, 8, [.nilFunc]⟩ := by kernel_rfl
@[go_sem] theorem Γ56 : Γ 56 = some ⟨.other, 1, 8, [.nilFunc]⟩ := by kernel_rfl
@[go_sem] theorem Γ57 : Γ 57 = some ⟨.other, 1, 8, [.nilFunc]⟩ := by kernel_rfl
@[go_sem] theorem Γ58 : Γ 58 = some ⟨.other, 1, 8, [.nilFunc]⟩ := by kernel_rfl
@[go_sem] theorem Γ59 : Γ 59 = some ⟨.struct [(0, 3), (1, 3), (2, 25)], 3, 40, [.int .i64 0, .int .i64 0, .slice none 0 0]⟩ := by kernel_rfl
@[go_sem] theorem Γ60 : Γ 60 = some ⟨.struct [(0, 3), (1, 3), (2, 25)], 3, 40, [.int .i64 0, .int .i64 0, .slice none 0 0]⟩ := by kernel_rfl
@[go_sem] theorem Γ61 : Γ 61 = some ⟨.other, 1, 8, [.nilFunc]⟩ := by kernel_rfl
@[go_sem] theorem Γ62 : Γ 62 = some ⟨.struct [(0, 3), (1, 3), (2, 25)], 3, 40, [.int .i64 0, .int .i64 0, .slice none 0 0]⟩ := by kernel_rfl
@[go_sem] theorem Γ63 : Γ 63 = some ⟨.struct [(0, 3), (1, 62)], 4, 48, [.int .i64 0, .int .i64 0, .int .i64 0, .slice none 0 0]⟩ := by kernel_rfl
@[go_sem] theorem Γ64 : Γ 64 = some ⟨.struct [(0, 3), (1, 62)], 4, 48, [.int .i64 0, .int .i64 0, .int .i64 0, .slice none 0 0]⟩ := by kernel_rfl
@[go_sem] theorem Γ65 : Γ 65 = some ⟨.other, 1, 8, [.nilFunc]⟩ := by kernel_rfl
@[go_sem] theorem Γ66 : Γ 66 = some ⟨.other, 1, 8, [.nilFunc]⟩ := by kernel_rfl
@[go_sem] theorem Γ67 : Γ 67 = some ⟨.other, 1, 8, [.nilFunc]⟩ := by kernel_rfl
@[go_sem] theorem Γ68 : Γ 68 = some ⟨.other, 1, 8, [.nilFunc]⟩ := by kernel_rfl
@[go_sem] theorem Γ69 : Γ 69 = some ⟨.other, 1, 8, [.nilFunc]⟩ := by kernel_rfl
@[go_sem] theorem Γ70 : Γ 70 = some ⟨.other, 1, 8, [.nilFunc]⟩ := by kernel_rfl
@[go_sem] theorem Γ71 : Γ 71 = some ⟨.other, 1, 8, [.nilFunc]⟩ := by kernel_rfl
@[go_sem] theorem Γ73 : Γ 73 = some ⟨.other, 1, 8, [.nilFunc]⟩ := by kernel_rfl
@[go_sem] theorem Γ75 : Γ 75 = some ⟨.other, 1, 8, [.nilFunc]⟩ := by kernel_rfl
@[go_sem] theorem Γ76 : Γ 76 = some ⟨.other, 1, 8, [.nilFunc]⟩ := by kernel_rfl
@[go_sem] theorem Γ77 : Γ 77 = some ⟨.other, 1, 8, [.nilFunc]⟩ := by kernel_rfl
@[go_sem] theorem Γ78 : Γ 78 = some ⟨.other, 1, 8, [.nilFunc]⟩ := by kernel_rfl
@[go_sem] theorem Γ79 : Γ 79 = some ⟨.other, 1, 8, [.nilFunc]⟩ := by kernel_rfl
@[go_sem] theorem Γ80 : Γ 80 = some ⟨.other, 1, 8, [.nilFunc]⟩ := by kernel_rfl
@[go_sem] theorem Γ81 : Γ 81 = some ⟨.other, 1, 8, [.nilFunc]⟩ := by kernel_rfl
@[go_sem] theorem Γ82 : Γ 82 = some ⟨.other, 1, 8, [.nilFunc]⟩ := by kernel_rfl
@[go_sem] theorem Γ83 : Γ 83 = some ⟨.other, 1, 8, [.pointer none]⟩ := by kernel_rfl
@[go_sem] theorem Γ84 : Γ 84 = some ⟨.struct [(0, 27)], 6, 56, [.int .i64 0, .int .i64 0, .int .i64 0, .int .i64 0, .string ⟨#[]⟩, .int .i64 0]⟩ := by kernel_rfl
@[go_sem] theorem Γ85 : Γ 85 = some ⟨.struct [(0, 27)], 6, 56, [.int .i64 0, .int .i64 0, .int .i64 0, .int .i64 0, .string ⟨#[]⟩, .int .i64 0]⟩ := by kernel_rfl
@[go_sem] theorem Γ86 : Γ 86 = some ⟨.other, 1, 8, [.nilFunc]⟩ := by kernel_rfl
@[go_sem] theorem Γ87 : Γ 87 = some ⟨.other, 1, 8, [.pointer none]⟩ := by kernel_rfl
@[go_sem] theorem Γ88 : Γ 88 = some ⟨.struct [(0, 36)], 6, 72, [.int .i64 0, .int .i64 0, .int .i64 0, .string ⟨#[]⟩, .string ⟨#[]⟩, .string ⟨#[]⟩]⟩ := by kernel_rfl
@[go_sem] theorem Γ89 : Γ 89 = some ⟨.struct [(0, 36)], 6, 72, [.int .i64 0, .int .i64 0, .int .i64 0, .string ⟨#[]⟩, .string ⟨#[]⟩, .string ⟨#[]⟩]⟩ := by kernel_rfl
@[go_sem] theorem Γ90 : Γ 90 = some ⟨.other, 1, 8, [.nilFunc]⟩ := by kernel_rfl
@[go_sem] theorem Γ91 : Γ 91 = some ⟨.struct [(0, 3), (1, 33)], 7, 80, [.int .i64 0, .int .i64 0, .int .i64 0, .int .i64 0, .string ⟨#[]⟩, .string ⟨#[]⟩, .string ⟨#[]⟩]⟩ := by kernel_rfl
@[go_sem] theorem Γ92 : Γ 92 = some ⟨.struct [(0, 3), (1, 33)], 7, 80, [.int .i64 0, .int .i64 0, .int .i64 0, .int .i64 0, .string ⟨#[]⟩, .string ⟨#[]⟩, .string ⟨#[]⟩]⟩ := by kernel_rfl
@[go_sem] theorem Γ93 : Γ 93 = some ⟨.struct [(0, 3), (1, 3), (2, 3), (3, 3), (4, 92)], 11, 112, [.int .i64 0, .int .i64 0, .int .i64 0, .int .i64 0, .int .i64 0, .int .i64 0, .int .i64 0, .int .i64 0, .string ⟨#[]⟩, .string ⟨#[]⟩, .string ⟨#[]⟩]⟩ := by kernel_rfl
@[go_sem] theorem Γ94 : Γ 94 = some ⟨.struct [(0, 3), (1, 3), (2, 3), (3, 3), (4, 92)], 11, 112, [.int .i64 0, .int .i64 0, .int .i64 0, .int .i64 0, .int .i64 0, .int .i64 0, .int .i64 0, .int .i64 0, .string ⟨#[]⟩, .string ⟨#[]⟩, .string ⟨#[]⟩]⟩ := by kernel_rfl
@[go_sem] theorem Γ95 : Γ 95 = some ⟨.other, 1, 8, [.nilFunc]⟩ := by kernel_rfl
@[go_sem] theorem Γ96 : Γ 96 = some ⟨.other, 1, 8, [.nilFunc]⟩ := by kernel_rfl
@[go_sem] theorem Γ97 : Γ 97 = some ⟨.struct [(0, 3), (1, 36)], 7, 80, [.int .i64 0, .int .i64 0, .int .i64 0, .int .i64 0, .string ⟨#[]⟩, .string ⟨#[]⟩, .string ⟨#[]⟩]⟩ := by kernel_rfl
@[go_sem] theorem Γ98 : Γ 98 = some ⟨.struct [(0, 3), (1, 36)], 7, 80, [.int .i64 0, .int .i64 0, .int .i64 0, .int .i64 0, .string ⟨#[]⟩, .string ⟨#[]⟩, .string ⟨#[]⟩]⟩ := by kernel_rfl
@[go_sem] theorem Γ99 : Γ 99 = some ⟨.struct [(0, 3), (1, 3), (2, 3), (3, 3), (4, 98)], 11, 112, [.int .i64 0, .int .i64 0, .int .i64 0, .int .i64 0, .int .i64 0, .int .i64 0, .int .i64 0, .int .i64 0, .string ⟨#[]⟩, .string ⟨#[]⟩, .string ⟨#[]⟩]⟩ := by kernel_rfl
@[go_sem] theorem Γ100 : Γ 100 = some ⟨.struct [(0, 3), (1, 3), (2, 3), (3, 3), (4, 98)], 11, 112, [.int .i64 0, .int .i64 0, .int .i64 0, .int .i64 0, .int .i64 0, .int .i64 0, .int .i64 0, .int .i64 0, .string ⟨#[]⟩, .string ⟨#[]⟩, .string ⟨#[]⟩]⟩ := by kernel_rfl
@[go_sem] theorem Γ101 : Γ 101 = some ⟨.other, 1, 8, [.nilFunc]⟩ := by kernel_rfl
@[go_sem] theorem Γ102 : Γ 102 = some ⟨.other, 1, 8, [.pointer none]⟩ := by kernel_rfl
@[go_sem] theorem Γ103 : Γ 103 = some ⟨.other, 1, 8, [.nilFunc]⟩ := by kernel_rfl
@[go_sem] theorem Γ104 : Γ 104 = some ⟨.other, 1, 8, [.nilFunc]⟩ := by kernel_rfl
@[go_sem] theorem Γ105 : Γ 105 = some ⟨.other, 1, 8, [.nilFunc]⟩ := by kernel_rfl
@[go_sem] theorem Γ106 : Γ 106 = some ⟨.other, 1, 8, [.nilFunc]⟩ := by kernel_rfl
@[go_sem] theorem Γ107 : Γ 107 = some ⟨.slice 3, 1, 24, [.slice none 0 0]⟩ := by kernel_rfl
@[go_sem] theorem Γ108 : Γ 108 = some ⟨.other, 1, 8, [.nilFunc]⟩ := by kernel_rfl
@[go_sem] theorem Γ109 : Γ 109 = some ⟨.other, 1, 8, [.nilFunc]⟩ := by kernel_rfl
@[go_sem] theorem Γ110 : Γ 110 = some ⟨.other, 1, 8, [.pointer none]⟩ := by kernel_rfl
@[go_sem] theorem Γ111 : Γ 111 = some ⟨.struct [(0, 54)], 10, 96, [.int .i64 0, .int .i64 0, .int .i64 0, .int .i64 0, .int .i64 0, .int .i64 0, .int .i64 0, .int .i64 0, .int .i64 0, .slice none 0 0]⟩ := by kernel_rfl
@[go_sem] theorem Γ112 : Γ 112 = some ⟨.struct [(0, 54)], 10, 96, [.int .i64 0, .int .i64 0, .int .i64 0, .int .i64 0, .int .i64 0, .int .i64 0, .int .i64 0, .int .i64 0, .int .i64 0, .slice none 0 0]⟩ := by kernel_rfl
@[go_sem] theorem Γ113 : Γ 113 = some ⟨.other, 1, 8, [.nilFunc]⟩ := by kernel_rfl
@[go_sem] theorem Γ114 : Γ 114 = some ⟨.other, 1, 8, [.nilFunc]⟩ := by kernel_rfl
@[go_sem] theorem Γ115 : Γ 115 = some ⟨.other, 1, 8, [.nilFunc]⟩ := by kernel_rfl
@[go_sem] theorem Γ116 : Γ 116 = some ⟨.other, 1, 8, [.nilFunc]⟩ := by kernel_rfl
@[go_sem] theorem Γ117 : Γ 117 = some ⟨.other, 1, 8, [.nilFunc]⟩ := by kernel_rfl
@[go_sem] theorem Γ118 : Γ 118 = some ⟨.other, 1, 16, [.nilIface]⟩ := by kernel_rfl
@[go_sem] theorem Γ119 : Γ 119 = some ⟨.other, 1, 16, [.nilIface]⟩ := by kernel_rfl
@[go_sem] theorem Γ120 : Γ 120 = some ⟨.other, 1, 8, [.nilFunc]⟩ := by kernel_rfl
@[go_sem] theorem Γ121 : Γ 121 = some ⟨.other, 1, 8, [.nilFunc]⟩ := by kernel_rfl
@[go_sem] theorem Γ122 : Γ 122 = some ⟨.struct [(0, 25), (1, 3)], 2, 32, [.slice none 0 0, .int .i64 0]⟩ := by kernel_rfl
@[go_sem] theorem Γ123 : Γ 123 = some ⟨.struct [(0, 25), (1, 3)], 2, 32, [.slice none 0 0, .int .i64 0]⟩ := by kernel_rfl
@[go_sem] theorem Γ124 : Γ 124 = some ⟨.other, 1, 8, [.nilFunc]⟩ := by kernel_rfl
@[go_sem] theorem Γ125 : Γ 125 = some ⟨.other, 1, 8, [.pointer none]⟩ := by kernel_rfl
@[go_sem] theorem Γ126 : Γ 126 = some ⟨.other, 1, 8, [.nilFunc]⟩ := by kernel_rfl
@[go_sem] theorem Γ127 : Γ 127 = some ⟨.other, 1, 8, [.nilFunc]⟩ := by kernel_rfl
@[go_sem] theorem Γ128 : Γ 128 = some ⟨.other, 1, 8, [.nilFunc]⟩ := by kernel_rfl
@[go_sem] theorem Γ129 : Γ 129 = some ⟨.other, 1, 8, [.nilFunc]⟩ := by kernel_rfl
@[go_sem] theorem Γ130 : Γ 130 = some ⟨.other, 1, 8, [.nilFunc]⟩ := by kernel_rfl
@[go_sem] theorem Γ131 : Γ 131 = some ⟨.int .u32, 1, 4, [.int .u32 0]⟩ := by kernel_rfl
@[go_sem] theorem Γ132 : Γ 132 = some ⟨.other, 1, 8, [.nilFunc]⟩ := by kernel_rfl
@[go_sem] theorem Γ133 : Γ 133 = some ⟨.other, 1, 16, [.nilIface]⟩ := by kernel_rfl
@[go_sem] theorem Γ134 : Γ 134 = some ⟨.other, 1, 16, [.nilIface]⟩ := by kernel_rfl
@[go_sem] theorem Γ135 : Γ 135 = some ⟨.other, 1, 8, [.nilFunc]⟩ := by kernel_rfl
@[go_sem] theorem Γ136 : Γ 136 = some ⟨.other, 1, 8, [.pointer none]⟩ := by kernel_rfl
@[go_sem] theorem Γ137 : Γ 137 = some ⟨.other, 1, 8, [.nilFunc]⟩ := by kernel_rfl
@[go_sem] theorem Γ138 : Γ 138 = some ⟨.struct [(0, 25)], 1, 24, [.slice none 0 0]⟩ := by kernel_rfl
@[go_sem] theorem Γ139 : Γ 139 = some ⟨.struct [(0, 25)], 1, 24, [.slice none 0 0]⟩ := by kernel_rfl
@[go_sem] theorem Γ140 : Γ 140 = some ⟨.other, 1, 8, [.nilFunc]⟩ := by kernel_rfl
@[go_sem] theorem Γ141 : Γ 141 = some ⟨.other, 1, 8, [.nilFunc]⟩ := by kernel_rfl
@[go_sem] theorem Γ142 : Γ 142 = some ⟨.other, 1, 8, [.nilFunc]⟩ := by kernel_rfl
@[go_sem] theorem Γ143 : Γ 143 = some ⟨.other, 1, 8, [.nilFunc]⟩ := by kernel_rfl
@[go_sem] theorem Γ144 : Γ 144 = some ⟨.other, 1, 8, [.nilFunc]⟩ := by kernel_rfl
@[go_sem] theorem Γ145 : Γ 145 = some ⟨.other, 1, 8, [.nilFunc]⟩ := by kernel_rfl
@[go_sem] theorem Γ146 : Γ 146 = some ⟨.other, 1, 8, [.pointer none]⟩ := by kernel_rfl
@[go_sem] theorem Γ147 : Γ 147 = some ⟨.other, 1, 16, [.nilIface]⟩ := by kernel_rfl
@[go_sem] theorem Γ148 : Γ 148 = some ⟨.other, 1, 16, [.nilIface]⟩ := by kernel_rfl
@[go_sem] theorem Γ149 : Γ 149 = some ⟨.other, 1, 8, [.nilFunc]⟩ := by kernel_rfl
@[go_sem] theorem Γ150 : Γ 150 = some ⟨.other, 1, 8, [.nilFunc]⟩ := by kernel_rfl
@[go_sem] theorem Γ152 : Γ 152 = some ⟨.other, 1, 8, [.nilFunc]⟩ := by kernel_rfl
@[go_sem] theorem Γ153 : Γ 153 = some ⟨.other, 1, 8, [.nilFunc]⟩ := by kernel_rfl
@[go_sem] theorem Γ154 : Γ 154 = some ⟨.struct [(0, 3), (1, 3), (2, 52)], 3, 40, [.int .i64 0, .int .i64 0, .slice none 0 0]⟩ := by kernel_rfl
@[go_sem] theorem Γ155 : Γ 155 = some ⟨.struct [(0, 3), (1, 3), (2, 52)], 3, 40, [.int .i64 0, .int .i64 0, .slice none 0 0]⟩ := by kernel_rfl
@[go_sem] theorem Γ156 : Γ 156 = some ⟨.other, 1, 8, [.nilFunc]⟩ := by kernel_rfl
@[go_sem] theorem Γ157 : Γ 157 = some ⟨.struct [(0, 3), (1, 42)], 2, 32, [.int .i64 0, .slice none 0 0]⟩ := by kernel_rfl
@[go_sem] theorem Γ158 : Γ 158 = some ⟨.struct [(0, 3), (1, 42)], 2, 32, [.int .i64 0, .slice none 0 0]⟩ := by kernel_rfl
@[go_sem] theorem Γ159 : Γ 159 = some ⟨.other, 1, 8, [.nilFunc]⟩ := by kernel_rfl
@[go_sem] theorem Γ160 : Γ 160 = some ⟨.other, 1, 8, [.nilFunc]⟩ := by kernel_rfl
@[go_sem] theorem Γ161 : Γ 161 = some ⟨.other, 1, 8, [.nilFunc]⟩ := by kernel_rfl
@[go_sem] theorem Γ162 : Γ 162 = some ⟨.int .u64, 1, 8, [.int .u64 0]⟩ := by kernel_rfl
@[go_sem] theorem Γ163 : Γ 163 = some ⟨.arr 16 131, 16, 64, [.int .u32 0, .int .u32 0, .int .u32 0, .int .u32 0, .int .u32 0, .int .u32 0, .int .u32 0, .int .u32 0, .int .u32 0, .int .u32 0, .int .u32 0, .int .u32 0, .int .u32 0, .int .u32 0, .int .u32 0, .int .u32 0]⟩ := by kernel_rfl
@[go_sem] theorem Γ164 : Γ 164 = some ⟨.other, 1, 8, [.nilFunc]⟩ := by kernel_rfl
@[go_sem] theorem Γ165 : Γ 165 = some ⟨.other, 1, 8, [.nilFunc]⟩ := by kernel_rfl
@[go_sem] theorem Γ166 : Γ 166 = some ⟨.other, 1, 8, [.nilFunc]⟩ := by kernel_rfl
@[go_sem] theorem Γ167 : Γ 167 = some ⟨.other, 1, 8, [.nilFunc]⟩ := by kernel_rfl
@[go_sem] theorem Γ168 : Γ 168 = some ⟨.struct [(0, 17)], 1, 8, [.pointer none]⟩ := by kernel_rfl
@[go_sem] theorem Γ169 : Γ 169 = some ⟨.struct [(0, 17)], 1, 8, [.pointer none]⟩ := by kernel_rfl
@[go_sem] theorem Γ170 : Γ 170 = some ⟨.other, 1, 8, [.pointer none]⟩ := by kernel_rfl
@[go_sem] theorem Γ171 : Γ 171 = some ⟨.other, 1, 16, [.nilIface]⟩ := by kernel_rfl
@[go_sem] theorem Γ173 : Γ 173 = some ⟨.other, 1, 8, [.nilFunc]⟩ := by kernel_rfl
@[go_sem] theorem Γ174 : Γ 174 = some ⟨.other, 1, 16, [.nilIface]⟩ := by kernel_rfl
@[go_sem] theorem Γ175 : Γ 175 = some ⟨.other, 1, 8, [.nilFunc]⟩ := by kernel_rfl
@[go_sem] theorem Γ176 : Γ 176 = some ⟨.other, 1, 16, [.nilIface]⟩ := by kernel_rfl
@[go_sem] theorem Γ177 : Γ 177 = some ⟨.slice 119, 1, 24, [.slice none 0 0]⟩ := by kernel_rfl
@[go_sem] theorem Γ178 : Γ 178 = some ⟨.other, 1, 8, [.nilFunc]⟩ := by kernel_rfl
@[go_sem] theorem Γ179 : Γ 179 = some ⟨.other, 1, 8, [.nilFunc]⟩ := by kernel_rfl
@[go_sem] theorem Γ180 : Γ 180 = some ⟨.other, 1, 8, [.nilFunc]⟩ := by kernel_rfl
@[go_sem] theorem Γ181 : Γ 181 = some ⟨.other, 1, 8, [.nilFunc]⟩ := by kernel_rfl
@[go_sem] theorem Γ182 : Γ 182 = some ⟨.slice 4, 1, 24, [.slice none 0 0]⟩ := by kernel_rfl
@[go_sem] theorem Γ183 : Γ 183 = some ⟨.other, 1, 8, [.nilFunc]⟩ := by kernel_rfl
@[go_sem] theorem Γ184 : Γ 184 = some ⟨.other, 1, 8, [.nilFunc]⟩ := by kernel_rfl
@[go_sem] theorem Γ185 : Γ 185 = some ⟨.other, 1, 8, [.nilFunc]⟩ := by kernel_rfl
@[go_sem] theorem Γ186 : Γ 186 = some ⟨.other, 1, 8, [.pointer none]⟩ := by kernel_rfl
@[go_sem] theorem Γ187 : Γ 187 = some ⟨.other, 1, 8, [.nilFunc]⟩ := by kernel_rfl
@[go_sem] theorem Γ193 : Γ 193 = some ⟨.int .u8, 1, 1, [.int .u8 0]⟩ := by kernel_rfl
@[go_sem] theorem Γ194 : Γ 194 = some ⟨.int .u8, 1, 1, [.int .u8 0]⟩ := by kernel_rfl
@[go_sem] theorem Γ195 : Γ 195 = some ⟨.other, 1, 8, [.nilFunc]⟩ := by kernel_rfl
@[go_sem] theorem Γ196 : Γ 196 = some ⟨.other, 1, 8, [.pointer none]⟩ := by kernel_rfl
@[go_sem] theorem Γ197 : Γ 197 = some ⟨.int .i32, 1, 4, [.int .i32 0]⟩ := by kernel_rfl
@[go_sem] theorem Γ198 : Γ 198 = some ⟨.int .i32, 1, 4, [.int .i32 0]⟩ := by kernel_rfl
@[go_sem] theorem Γ201 : Γ 201 = some ⟨.other, 1, 8, [.nilFunc]⟩ := by kernel_rfl
@[go_sem] theorem Γ202 : Γ 202 = some ⟨.other, 1, 8, [.nilFunc]⟩ := by kernel_rfl
@[go_sem] theorem Γ203 : Γ 203 = some ⟨.slice 9, 1, 24, [.slice none 0 0]⟩ := by kernel_rfl
@[go_sem] theorem Γ204 : Γ 204 = some ⟨.other, 1, 8, [.nilFunc]⟩ := by kernel_rfl
@[go_sem] theorem Γ205 : Γ 205 = some ⟨.other, 1, 8, [.nilFunc]⟩ := by kernel_rfl
@[go_sem] theorem Γ206 : Γ 206 = some ⟨.other, 1, 8, [.nilFunc]⟩ := by kernel_rfl
@[go_sem] theorem Γ207 : Γ 207 = some ⟨.other, 1, 8, [.nilFunc]⟩ := by kernel_rfl
@[go_sem] theorem Γ208 : Γ 208 = some ⟨.other, 1, 8, [.nilFunc]⟩ := by kernel_rfl
@[go_sem] theorem Γ209 : Γ 209 = some ⟨.other, 1, 8, [.nilFunc]⟩ := by kernel_rfl
@[go_sem] theorem Γ210 : Γ 210 = some ⟨.other, 1, 8, [.nilFunc]⟩ := by kernel_rfl
@[go_sem] theorem Γ211 : Γ 211 = some ⟨.other, 1, 8, [.nilFunc]⟩ := by kernel_rfl
@[go_sem] theorem Γ212 : Γ 212 = some ⟨.other, 1, 8, [.nilFunc]⟩ := by kernel_rfl
@[go_sem] theorem Γ213 : Γ 213 = some ⟨.struct [(0, 9), (1, 194)], 2, 24, [.string ⟨#[]⟩, .int .u8 0]⟩ := by kernel_rfl
@[go_sem] theorem Γ214 : Γ 214 = some ⟨.struct [(0, 9), (1, 194)], 2, 24, [.string ⟨#[]⟩, .int .u8 0]⟩ := by kernel_rfl
@[go_sem] theorem Γ215 : Γ 215 = some ⟨.struct [(0, 9)], 1, 16, [.string ⟨#[]⟩]⟩ := by kernel_rfl
@[go_sem] theorem Γ216 : Γ 216 = some ⟨.struct [(0, 9)], 1, 16, [.string ⟨#[]⟩]⟩ := by kernel_rfl
@[go_sem] theorem Γ218 : Γ 218 = some ⟨.other, 1, 8, [.pointer none]⟩ := by kernel_rfl
@[go_sem] theorem Γ219 : Γ 219 = some ⟨.other, 1, 8, [.pointer none]⟩ := by kernel_rfl
@[go_sem] theorem Γ220 : Γ 220 = some ⟨.struct [(0, 25)], 1, 24, [.slice none 0 0]⟩ := by kernel_rfl
@[go_sem] theorem Γ221 : Γ 221 = some ⟨.other, 1, 8, [.nilFunc]⟩ := by kernel_rfl
@[go_sem] theorem Γ222 : Γ 222 = some ⟨.int .u16, 1, 2, [.int .u16 0]⟩ := by kernel_rfl
@[go_sem] theorem Γ223 : Γ 223 = some ⟨.struct [(0, 197), (1, 222), (2, 222), (3, 131), (4, 131)], 5, 16, [.int .i32 0, .int .u16 0, .int .u16 0, .int .u32 0, .int .u32 0]⟩ := by kernel_rfl
@[go_sem] theorem Γ224 : Γ 224 = some ⟨.struct [(0, 197), (1, 222), (2, 222), (3, 131), (4, 131)], 5, 16, [.int .i32 0, .int .u16 0, .int .u16 0, .int .u32 0, .int .u32 0]⟩ := by kernel_rfl
@[go_sem] theorem Γ225 : Γ 225 = some ⟨.slice 228, 1, 24, [.slice none 0 0]⟩ := by kernel_rfl
@[go_sem] theorem Γ226 : Γ 226 = some ⟨.int .i32, 1, 4, [.int .i32 0]⟩ := by kernel_rfl
@[go_sem] theorem Γ227 : Γ 227 = some ⟨.struct [(0, 197), (1, 198), (2, 226), (3, 226)], 4, 16, [.int .i32 0, .int .i32 0, .int .i32 0, .int .i32 0]⟩ := by kernel_rfl
@[go_sem] theorem Γ228 : Γ 228 = some ⟨.struct [(0, 197), (1, 198), (2, 226), (3, 226)], 4, 16, [.int .i32 0, .int .i32 0, .int .i32 0, .int .i32 0]⟩ := by kernel_rfl
@[go_sem] theorem Γ229 : Γ 229 = some ⟨.other, 1, 8, [.nilFunc]⟩ := by kernel_rfl
theorem eqTy_mk {P : Program} {t : Nat} {fs : Array Field} (hu : P.underlying t = some (.struct fs)) (h1 : fs.toList.all (fun f => !(f.name == "_")) = true) (h2 : (!P.stoodInHeld t && !P.eqGuardType P.depth t) = true) : EqTyOk P t := by
  simp only [Bool.and_eq_true, Bool.not_eq_true'] at h2
  refine .inl ⟨fs, hu, fun f hf he => ?_, h2.1, h2.2⟩
  have := List.all_eq_true.1 h1 f hf
  rw [he] at this
  cases this
theorem eqAr_mk {P : Program} {t n e : Nat} (hu : P.underlying t = some (.array n e)) (h2 : (!P.eqGuardType P.depth t) = true) : EqTyOk P t := .inr ⟨n, e, hu, by simpa using h2⟩
theorem eqTyOk163 : EqTyOk Tryd.prog 163 := eqAr_mk Tryd.underlying163 (by kernel_rfl)
theorem eqTyOk23 : EqTyOk Tryd.prog 23 := eqTy_mk Tryd.underlying23 (by kernel_rfl) (by kernel_rfl)
theorem eqTyOk27 : EqTyOk Tryd.prog 27 := eqTy_mk Tryd.underlying27 (by kernel_rfl) (by kernel_rfl)
theorem eqTyOk33 : EqTyOk Tryd.prog 33 := eqTy_mk Tryd.underlying33 (by kernel_rfl) (by kernel_rfl)
theorem eqTyOk36 : EqTyOk Tryd.prog 36 := eqTy_mk Tryd.underlying36 (by kernel_rfl) (by kernel_rfl)
theorem eqTyOk84 : EqTyOk Tryd.prog 84 := eqTy_mk Tryd.underlying84 (by kernel_rfl) (by kernel_rfl)
theorem eqTyOk85 : EqTyOk Tryd.prog 85 := eqTy_mk Tryd.underlying85 (by kernel_rfl) (by kernel_rfl)
theorem eqTyOk88 : EqTyOk Tryd.prog 88 := eqTy_mk Tryd.underlying88 (by kernel_rfl) (by kernel_rfl)
theorem eqTyOk89 : EqTyOk Tryd.prog 89 := eqTy_mk Tryd.underlying89 (by kernel_rfl) (by kernel_rfl)
theorem eqTyOk91 : EqTyOk Tryd.prog 91 := eqTy_mk Tryd.underlying91 (by kernel_rfl) (by kernel_rfl)
theorem eqTyOk92 : EqTyOk Tryd.prog 92 := eqTy_mk Tryd.underlying92 (by kernel_rfl) (by kernel_rfl)
theorem eqTyOk97 : EqTyOk Tryd.prog 97 := eqTy_mk Tryd.underlying97 (by kernel_rfl) (by kernel_rfl)
theorem eqTyOk98 : EqTyOk Tryd.prog 98 := eqTy_mk Tryd.underlying98 (by kernel_rfl) (by kernel_rfl)
def eqTyL : List Nat := [23, 27, 33, 36, 84, 85, 88, 89, 91, 92, 97, 98, 163]
theorem eqTyLOk : ∀ t, t ∈ eqTyL → EqTyOk Tryd.prog t := by
  intro t h
  simp only [eqTyL, List.mem_cons, List.not_mem_nil, or_false] at h
  rcases h with rfl | rfl | rfl | rfl | rfl | rfl | rfl | rfl | rfl | rfl | rfl | rfl | rfl
  · exact eqTyOk23
  · exact eqTyOk27
  · exact eqTyOk33
  · exact eqTyOk36
  · exact eqTyOk84
  · exact eqTyOk85
  · exact eqTyOk88
  · exact eqTyOk89
  · exact eqTyOk91
  · exact eqTyOk92
  · exact eqTyOk97
  · exact eqTyOk98
  · exact eqTyOk163
theorem ptr_mk {P : Program} {t e : Nat} (hu : P.underlying t = some (.pointer e)) (h : (P.info? t).map (fun i => i.zero) = some (some (.pointer none))) : PtrOk P t := by
  cases hi : P.info? t with
  | none => rw [hi] at h; cases h
  | some i => rw [hi] at h; exact ⟨e, i, hu, hi, by simpa using h⟩
theorem mth_mk {P : Program} {t e f : Nat} {nm : String} (hu : P.underlying t = some (.pointer e)) (h : ((P.info? t).bind fun i => i.methods.find? (fun m => m.name == nm)).map (fun m => (m.path.toList.isEmpty, m.func)) = some (true, some (f, true))) : MthOk P t nm f := by
  obtain ⟨m, h1, h2⟩ := Option.map_eq_some_iff.1 h
  obtain ⟨i, h3, h4⟩ := Option.bind_eq_some_iff.1 h1
  simp only [Prod.mk.injEq, List.isEmpty_iff] at h2
  exact ⟨e, i, m, hu, h3, h4, h2.1, h2.2⟩
theorem ptrOk83 : PtrOk Tryd.prog 83 := ptr_mk Tryd.underlying83 (by kernel_rfl)
theorem ptrOk87 : PtrOk Tryd.prog 87 := ptr_mk Tryd.underlying87 (by kernel_rfl)
theorem ptrOk102 : PtrOk Tryd.prog 102 := ptr_mk Tryd.underlying102 (by kernel_rfl)
theorem ptrOk110 : PtrOk Tryd.prog 110 := ptr_mk Tryd.underlying110 (by kernel_rfl)
theorem ptrOk125 : PtrOk Tryd.prog 125 := ptr_mk Tryd.underlying125 (by kernel_rfl)
theorem ptrOk136 : PtrOk Tryd.prog 136 := ptr_mk Tryd.underlying136 (by kernel_rfl)
theorem ptrOk146 : PtrOk Tryd.prog 146 := ptr_mk Tryd.underlying146 (by kernel_rfl)
theorem ptrOk218 : PtrOk Tryd.prog 218 := ptr_mk Tryd.underlying218 (by kernel_rfl)
def ptrL : List Nat := [83, 87, 102, 110, 125, 136, 146, 218]
theorem ptrLOk : ∀ t, t ∈ ptrL → PtrOk Tryd.prog t := by
  intro t h
  simp only [ptrL, List.mem_cons, List.not_mem_nil, or_false] at h
  rcases h with rfl | rfl | rfl | rfl | rfl | rfl | rfl | rfl
  · exact ptrOk83
  · exact ptrOk87
  · exact ptrOk102
  · exact ptrOk110
  · exact ptrOk125
  · exact ptrOk136
  · exact ptrOk146
  · exact ptrOk218
theorem mthOk0 : MthOk Tryd.prog 83 "loop.example/s01586/impl.fault" 129 := mth_mk Tryd.underlying83 (by kernel_rfl)
theorem mthOk1 : MthOk Tryd.prog 83 "loop.example/s01586/impl.read" 159 := mth_mk Tryd.underlying83 (by kernel_rfl)
theorem mthOk2 : MthOk Tryd.prog 83 "loop.example/s01586/impl.write" 130 := mth_mk Tryd.underlying83 (by kernel_rfl)
theorem mthOk3 : MthOk Tryd.prog 87 "loop.example/s01586/impl.fault" 133 := mth_mk Tryd.underlying87 (by kernel_rfl)
theorem mthOk4 : MthOk Tryd.prog 87 "loop.example/s01586/impl.read" 160 := mth_mk Tryd.underlying87 (by kernel_rfl)
theorem mthOk5 : MthOk Tryd.prog 87 "loop.example/s01586/impl.write" 134 := mth_mk Tryd.underlying87 (by kernel_rfl)
theorem mthOk6 : MthOk Tryd.prog 102 "loop.example/s01586/impl.fault" 88 := mth_mk Tryd.underlying102 (by kernel_rfl)
theorem mthOk7 : MthOk Tryd.prog 102 "loop.example/s01586/impl.read" 161 := mth_mk Tryd.underlying102 (by kernel_rfl)
theorem mthOk8 : MthOk Tryd.prog 102 "loop.example/s01586/impl.write" 136 := mth_mk Tryd.underlying102 (by kernel_rfl)
theorem mthOk9 : MthOk Tryd.prog 110 "loop.example/s01586/impl.fault" 138 := mth_mk Tryd.underlying110 (by kernel_rfl)
theorem mthOk10 : MthOk Tryd.prog 110 "loop.example/s01586/impl.read" 162 := mth_mk Tryd.underlying110 (by kernel_rfl)
theorem mthOk11 : MthOk Tryd.prog 110 "loop.example/s01586/impl.write" 139 := mth_mk Tryd.underlying110 (by kernel_rfl)
theorem mthOk12 : MthOk Tryd.prog 136 "loop.example/s01586/impl.cmd" 135 := mth_mk Tryd.underlying136 (by kernel_rfl)
theorem mthOk13 : MthOk Tryd.prog 136 "loop.example/s01586/impl.entry" 137 := mth_mk Tryd.underlying136 (by kernel_rfl)
theorem mthOk14 : MthOk Tryd.prog 136 "loop.example/s01586/impl.nums" 131 := mth_mk Tryd.underlying136 (by kernel_rfl)
theorem mthOk15 : MthOk Tryd.prog 136 "loop.example/s01586/impl.texts" 132 := mth_mk Tryd.underlying136 (by kernel_rfl)
theorem mthOk16 : MthOk Tryd.prog 146 "loop.example/s01586/impl.add" 72 := mth_mk Tryd.underlying146 (by kernel_rfl)
theorem mthOk17 : MthOk Tryd.prog 218 "loop.example/s01586/impl.num" 157 := mth_mk Tryd.underlying218 (by kernel_rfl)
def findM (t : Nat) (nm : String) : List (Nat × String × Nat) → Option Nat
  | [] => none
  | p :: l => if t = p.1 ∧ nm = p.2.1 then some p.2.2 else findM t nm l
def AllM : List (Nat × String × Nat) → Prop
  | [] => True
  | p :: l => MthOk Tryd.prog p.1 p.2.1 p.2.2 ∧ AllM l
theorem findM_ok {t : Nat} {nm : String} {f : Nat} : ∀ {l : List (Nat × String × Nat)}, AllM l → findM t nm l = some f → MthOk Tryd.prog t nm f
  | [], _, h => by cases h
  | (t', nm', f') :: l, k, h => by
    by_cases hc : t = t' ∧ nm = nm'
    · obtain ⟨h1, h2⟩ := hc
      subst h1; subst h2
      have h' : some f' = some f := (if_pos (show t = t ∧ nm = nm from ⟨rfl, rfl⟩) : findM t nm ((t, nm, f') :: l) = some f').symm.trans h
      have := Option.some.inj h'
      subst this
      exact k.1
    · exact findM_ok k.2 ((if_neg hc : findM t nm ((t', nm', f') :: l) = findM t nm l).symm.trans h)
def mthL : List (Nat × String × Nat) := [(83, "loop.example/s01586/impl.fault", 129), (83, "loop.example/s01586/impl.read", 159), (83, "loop.example/s01586/impl.write", 130), (87, "loop.example/s01586/impl.fault", 133), (87, "loop.example/s01586/impl.read", 160), (87, "loop.example/s01586/impl.write", 134), (102, "loop.example/s01586/impl.fault", 88), (102, "loop.example/s01586/impl.read", 161), (102, "loop.example/s01586/impl.write", 136), (110, "loop.example/s01586/impl.fault", 138), (110, "loop.example/s01586/impl.read", 162), (110, "loop.example/s01586/impl.write", 139), (136, "loop.example/s01586/impl.cmd", 135), (136, "loop.example/s01586/impl.entry", 137), (136, "loop.example/s01586/impl.nums", 131), (136, "loop.example/s01586/impl.texts", 132), (146, "loop.example/s01586/impl.add", 72), (218, "loop.example/s01586/impl.num", 157)]
theorem mthLOk : AllM mthL := ⟨mthOk0, mthOk1, mthOk2, mthOk3, mthOk4, mthOk5, mthOk6, mthOk7, mthOk8, mthOk9, mthOk10, mthOk11, mthOk12, mthOk13, mthOk14, mthOk15, mthOk16, mthOk17, trivial⟩
def mthOf (t : Nat) (nm : String) : Option Nat := findM t nm mthL
theorem mthOfOk (t : Nat) (nm : String) (f : Nat) (h : mthOf t nm = some f) : MthOk Tryd.prog t nm f := findM_ok mthLOk h
@[go_sem] theorem mthOf0 : mthOf 83 "loop.example/s01586/impl.fault" = some 129 := by kernel_rfl
@[go_sem] theorem mthOf1 : mthOf 83 "loop.example/s01586/impl.read" = some 159 := by kernel_rfl
@[go_sem] theorem mthOf2 : mthOf 83 "loop.example/s01586/impl.write" = some 130 := by kernel_rfl
@[go_sem] theorem mthOf3 : mthOf 87 "loop.example/s01586/impl.fault" = some 133 := by kernel_rfl
@[go_sem] theorem mthOf4 : mthOf 87 "loop.example/s01586/impl.read" = some 160 := by kernel_rfl
@[go_sem] theorem mthOf5 : mthOf 87 "loop.example/s01586/impl.write" = some 134 := by kernel_rfl
@[go_sem] theorem mthOf6 : mthOf 102 "loop.example/s01586/impl.fault" = some 88 := by kernel_rfl
@[go_sem] theorem mthOf7 : mthOf 102 "loop.example/s01586/impl.read" = some 161 := by kernel_rfl
@[go_sem] theorem mthOf8 : mthOf 102 "loop.example/s01586/impl.write" = some 136 := by kernel_rfl
@[go_sem] theorem mthOf9 : mthOf 110 "loop.example/s01586/impl.fault" = some 138 := by kernel_rfl
@[go_sem] theorem mthOf10 : mthOf 110 "loop.example/s01586/impl.read" = some 162 := by kernel_rfl
@[go_sem] theorem mthOf11 : mthOf 110 "loop.example/s01586/impl.write" = some 139 := by kernel_rfl
@[go_sem] theorem mthOf12 : mthOf 136 "loop.example/s01586/impl.cmd" = some 135 := by kernel_rfl
@[go_sem] theorem mthOf13 : mthOf 136 "loop.example/s01586/impl.entry" = some 137 := by kernel_rfl
@[go_sem] theorem mthOf14 : mthOf 136 "loop.example/s01586/impl.nums" = some 131 := by kernel_rfl
@[go_sem] theorem mthOf15 : mthOf 136 "loop.example/s01586/impl.texts" = some 132 := by kernel_rfl
@[go_sem] theorem mthOf16 : mthOf 146 "loop.example/s01586/impl.add" = some 72 := by kernel_rfl
@[go_sem] theorem mthOf17 : mthOf 218 "loop.example/s01586/impl.num" = some 157 := by kernel_rfl
def eqTys : Eqs := ⟨eqTyL, ptrL, mthOf⟩
theorem eqTysOk : EqsOk Tryd.prog eqTys := ⟨eqTyLOk, ptrLOk, mthOfOk⟩
end Go.Proofs.YtaolgdpkcbfocaaDoorA
