/-
  DERIVED. GIVEN WITH THE SEED: THE CARDS: each row of YtaolgdpkcbfocaaDoorRows.lean that lists a variable, with what it lists TIED to the program's text (the seventh form; the later family's looks); each row that meets fmt, with fmt's text TOLD by the authors' own Lean function (tested against real Go, not proved from fmt's source: count such statements apart). THE CARD IS WHAT COUNTS. Prove the row's statement (the work); the ties are given (YtaolgdpkcbfocaaDoorTie.lean); close each card by the builder's one call (the guide's Derived/Test/ToyasCard.lean, 'card_holds'). Laid BY PROGRAM, IN A SANDBOX (cutbox-door.mjs). By AI agents, Wed Nov 11 2026. No macro, syntax, notation, axiom, sorry.
-/
import Derived.Test.YtaolgdpkcbfocaaDoorRows
import GoSem.ClaimSeven
namespace Go.Proofs.YtaolgdpkcbfocaaDoor
namespace Rows

/-- THE TIED CARD OF 'laws.FnExactEncodeReply'. -/
def fnExactEncodeReplyCard : Claim7 := { stood := { row := fnExactEncodeReplyRow, standIns := [], harness := (true, "59ee1c8594591b5753a15652709313ca4caf9c22a94e0788338a4bfda3687f50"), looks := true }, kinds := [], alts := [], laidByText := true, laidKinds := [.data], laidTests := true, laidLooks := .later }
def FnExactEncodeReplyCardSaid : Prop := Claim7.holds Tryd.pinned (.plain (OpenSpec.ofChange fnExactEncodeReplySpec)) fnExactEncodeReplyCard

/-- THE TIED CARD OF 'laws.FnExactEncodeCall'. -/
def fnExactEncodeCallCard : Claim7 := { stood := { row := fnExactEncodeCallRow, standIns := [], harness := (true, "59ee1c8594591b5753a15652709313ca4caf9c22a94e0788338a4bfda3687f50"), looks := true }, kinds := [], alts := [], laidByText := true, laidKinds := [.data], laidTests := true, laidLooks := .later }
def FnExactEncodeCallCardSaid : Prop := Claim7.holds Tryd.pinned (.plain (OpenSpec.ofChange fnExactEncodeCallSpec)) fnExactEncodeCallCard

/-- THE TIED CARD OF 'laws.FnExactEncodeRecords'. -/
def fnExactEncodeRecordsCard : Claim7 := { stood := { row := fnExactEncodeRecordsRow, standIns := [], harness := (true, "59ee1c8594591b5753a15652709313ca4caf9c22a94e0788338a4bfda3687f50"), looks := true }, kinds := [], alts := [], laidByText := true, laidKinds := [.data], laidTests := true, laidLooks := .later }
def FnExactEncodeRecordsCardSaid : Prop := Claim7.holds Tryd.pinned (.plain (OpenSpec.ofChange fnExactEncodeRecordsSpec)) fnExactEncodeRecordsCard

/-- THE TIED CARD OF 'laws.FnExactEncodeMsg'. -/
def fnExactEncodeMsgCard : Claim7 := { stood := { row := fnExactEncodeMsgRow, standIns := [], harness := (true, "59ee1c8594591b5753a15652709313ca4caf9c22a94e0788338a4bfda3687f50"), looks := true }, kinds := [], alts := [], laidByText := true, laidKinds := [.data], laidTests := true, laidLooks := .later }
def FnExactEncodeMsgCardSaid : Prop := Claim7.holds Tryd.pinned (.plain (OpenSpec.ofChange fnExactEncodeMsgSpec)) fnExactEncodeMsgCard

/-- THE TIED CARD OF 'laws.FnExactDiskWrite'. -/
def fnExactDiskWriteCard : Claim7 := { stood := { row := fnExactDiskWriteRow, standIns := [], harness := (true, "59ee1c8594591b5753a15652709313ca4caf9c22a94e0788338a4bfda3687f50"), looks := true }, kinds := [], alts := [], laidByText := true, laidKinds := [.data, .sentinel], laidTests := true, laidLooks := .later }
def FnExactDiskWriteCardSaid : Prop := Claim7.holds Tryd.pinned (.plain (OpenSpec.ofChange fnExactDiskWriteSpec)) fnExactDiskWriteCard

/-- THE TIED CARD OF 'laws.FnDisk'. -/
def fnDiskCard : Claim7 := { stood := { row := fnDiskRow, standIns := [], harness := (true, "59ee1c8594591b5753a15652709313ca4caf9c22a94e0788338a4bfda3687f50"), looks := true }, kinds := [], alts := [], laidByText := true, laidKinds := [.data, .sentinel], laidTests := true, laidLooks := .later }
def FnDiskCardSaid : Prop := Claim7.holds Tryd.pinned (.plain (OpenSpec.ofChange fnDiskSpec)) fnDiskCard

/-- THE SECOND FORM's CARD OF 'laws.FnExactEncodeReply'. -/
def fnExactEncodeReplyUptoCard : Claim7 := { stood := { row := fnExactEncodeReplyUptoRow, standIns := [], harness := (true, "59ee1c8594591b5753a15652709313ca4caf9c22a94e0788338a4bfda3687f50"), looks := true }, kinds := [], alts := [], laidByText := true, laidKinds := [.data], laidTests := true, laidLooks := .later }
def FnExactEncodeReplyUptoCardSaid : Prop := Claim7.holds Tryd.pinned (.plain (OpenSpec.upto fnExactEncodeReplySpec)) fnExactEncodeReplyUptoCard

/-- THE SECOND FORM's CARD OF 'laws.FnExactEncodeCall'. -/
def fnExactEncodeCallUptoCard : Claim7 := { stood := { row := fnExactEncodeCallUptoRow, standIns := [], harness := (true, "59ee1c8594591b5753a15652709313ca4caf9c22a94e0788338a4bfda3687f50"), looks := true }, kinds := [], alts := [], laidByText := true, laidKinds := [.data], laidTests := true, laidLooks := .later }
def FnExactEncodeCallUptoCardSaid : Prop := Claim7.holds Tryd.pinned (.plain (OpenSpec.upto fnExactEncodeCallSpec)) fnExactEncodeCallUptoCard

/-- THE SECOND FORM's CARD OF 'laws.FnExactEncodeRecords'. -/
def fnExactEncodeRecordsUptoCard : Claim7 := { stood := { row := fnExactEncodeRecordsUptoRow, standIns := [], harness := (true, "59ee1c8594591b5753a15652709313ca4caf9c22a94e0788338a4bfda3687f50"), looks := true }, kinds := [], alts := [], laidByText := true, laidKinds := [.data], laidTests := true, laidLooks := .later }
def FnExactEncodeRecordsUptoCardSaid : Prop := Claim7.holds Tryd.pinned (.plain (OpenSpec.upto fnExactEncodeRecordsSpec)) fnExactEncodeRecordsUptoCard

/-- THE SECOND FORM's CARD OF 'laws.FnExactEncodeMsg'. -/
def fnExactEncodeMsgUptoCard : Claim7 := { stood := { row := fnExactEncodeMsgUptoRow, standIns := [], harness := (true, "59ee1c8594591b5753a15652709313ca4caf9c22a94e0788338a4bfda3687f50"), looks := true }, kinds := [], alts := [], laidByText := true, laidKinds := [.data], laidTests := true, laidLooks := .later }
def FnExactEncodeMsgUptoCardSaid : Prop := Claim7.holds Tryd.pinned (.plain (OpenSpec.upto fnExactEncodeMsgSpec)) fnExactEncodeMsgUptoCard

/-- THE SECOND FORM's CARD OF 'laws.FnExactDiskWrite'. -/
def fnExactDiskWriteUptoCard : Claim7 := { stood := { row := fnExactDiskWriteUptoRow, standIns := [], harness := (true, "59ee1c8594591b5753a15652709313ca4caf9c22a94e0788338a4bfda3687f50"), looks := true }, kinds := [], alts := [], laidByText := true, laidKinds := [.data, .sentinel], laidTests := true, laidLooks := .later }
def FnExactDiskWriteUptoCardSaid : Prop := Claim7.holds Tryd.pinned (.plain (OpenSpec.upto fnExactDiskWriteSpec)) fnExactDiskWriteUptoCard

/-- THE SECOND FORM's CARD OF 'laws.FnDisk'. -/
def fnDiskUptoCard : Claim7 := { stood := { row := fnDiskUptoRow, standIns := [], harness := (true, "59ee1c8594591b5753a15652709313ca4caf9c22a94e0788338a4bfda3687f50"), looks := true }, kinds := [], alts := [], laidByText := true, laidKinds := [.data, .sentinel], laidTests := true, laidLooks := .later }
def FnDiskUptoCardSaid : Prop := Claim7.holds Tryd.pinned (.plain (OpenSpec.upto fnDiskSpec)) fnDiskUptoCard
end Rows
end Go.Proofs.YtaolgdpkcbfocaaDoor
