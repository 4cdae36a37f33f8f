/-
  DERIVED. GIVEN WITH THE SEED: THE PROGRAM's TIES (one call each: nine closed facts by the kernel) AND EACH ROW's TIE, after the 31st guide's Derived/Test/Toyas{Tie, Card}.lean. No idea stands in it: it is a product of the set-up. Laid BY PROGRAM, IN A SANDBOX (cutbox-door.mjs). By AI agents, Wed Nov 11 2026. No macro, syntax, notation, axiom, sorry.
-/
import Derived.Test.YtaolgdpkcbfocaaDoorRows
import Derived.LaidByTextLater
import Derived.SevenTiedAt
import Derived.LaidSub
import Derived.LaidOnce
namespace Go.Proofs.YtaolgdpkcbfocaaDoor
open Go
set_option maxRecDepth 100000
theorem seatTie1 : Tryd.prog.laidByTextLater [("loop.example/s01586/impl.nibbles", Rows.laid_loop_example_s01586_impl_nibbles), ("loop.example/s01586/impl.errFull", Rows.laid_loop_example_s01586_impl_errFull)] [.data, .sentinel] true :=
  Program.laidByTextLater_by_one 33 8 17 (by kernel_rfl) (by kernel_rfl) (by kernel_rfl) (by kernel_rfl) (by kernel_rfl) (by kernel_rfl) (fun _ _ => by kernel_rfl)
theorem noOwnUnsafe : Tryd.pinned.checked.prog.headLifts.contains "ownunsafe" = false := by kernel_rfl
theorem tie : Tryd.prog.laidByTextLater [("loop.example/s01586/impl.nibbles", Rows.laid_loop_example_s01586_impl_nibbles)] [.data] true :=
  Program.laidByTextLater.sub seatTie1 ["loop.example/s01586/impl.nibbles"] (by kernel_rfl) (by kernel_rfl)
theorem fnExactEncodeReply_row_tie : Rows.fnExactEncodeReplyRow.laidByTextAt .later Tryd.pinned [.data] true :=
  OpenClaim.laidByTextAt_later rfl rfl tie noOwnUnsafe
theorem fnExactEncodeCall_row_tie : Rows.fnExactEncodeCallRow.laidByTextAt .later Tryd.pinned [.data] true :=
  OpenClaim.laidByTextAt_later rfl rfl tie noOwnUnsafe
theorem fnExactEncodeRecords_row_tie : Rows.fnExactEncodeRecordsRow.laidByTextAt .later Tryd.pinned [.data] true :=
  OpenClaim.laidByTextAt_later rfl rfl tie noOwnUnsafe
theorem fnExactEncodeMsg_row_tie : Rows.fnExactEncodeMsgRow.laidByTextAt .later Tryd.pinned [.data] true :=
  OpenClaim.laidByTextAt_later rfl rfl tie noOwnUnsafe
theorem tie2 : Tryd.prog.laidByTextLater [("loop.example/s01586/impl.nibbles", Rows.laid_loop_example_s01586_impl_nibbles), ("loop.example/s01586/impl.errFull", Rows.laid_loop_example_s01586_impl_errFull)] [.data, .sentinel] true :=
  Program.laidByTextLater.sub seatTie1 ["loop.example/s01586/impl.nibbles", "loop.example/s01586/impl.errFull"] (by kernel_rfl) (by kernel_rfl)
theorem fnExactDiskWrite_row_tie : Rows.fnExactDiskWriteRow.laidByTextAt .later Tryd.pinned [.data, .sentinel] true :=
  OpenClaim.laidByTextAt_later rfl rfl tie2 noOwnUnsafe
theorem fnDisk_row_tie : Rows.fnDiskRow.laidByTextAt .later Tryd.pinned [.data, .sentinel] true :=
  OpenClaim.laidByTextAt_later rfl rfl tie2 noOwnUnsafe
theorem fnExactEncodeReplyUpto_row_tie : Rows.fnExactEncodeReplyUptoRow.laidByTextAt .later Tryd.pinned [.data] true :=
  OpenClaim.laidByTextAt_later rfl rfl tie noOwnUnsafe
theorem fnExactEncodeCallUpto_row_tie : Rows.fnExactEncodeCallUptoRow.laidByTextAt .later Tryd.pinned [.data] true :=
  OpenClaim.laidByTextAt_later rfl rfl tie noOwnUnsafe
theorem fnExactEncodeRecordsUpto_row_tie : Rows.fnExactEncodeRecordsUptoRow.laidByTextAt .later Tryd.pinned [.data] true :=
  OpenClaim.laidByTextAt_later rfl rfl tie noOwnUnsafe
theorem fnExactEncodeMsgUpto_row_tie : Rows.fnExactEncodeMsgUptoRow.laidByTextAt .later Tryd.pinned [.data] true :=
  OpenClaim.laidByTextAt_later rfl rfl tie noOwnUnsafe
theorem fnExactDiskWriteUpto_row_tie : Rows.fnExactDiskWriteUptoRow.laidByTextAt .later Tryd.pinned [.data, .sentinel] true :=
  OpenClaim.laidByTextAt_later rfl rfl tie2 noOwnUnsafe
theorem fnDiskUpto_row_tie : Rows.fnDiskUptoRow.laidByTextAt .later Tryd.pinned [.data, .sentinel] true :=
  OpenClaim.laidByTextAt_later rfl rfl tie2 noOwnUnsafe
end Go.Proofs.YtaolgdpkcbfocaaDoor
