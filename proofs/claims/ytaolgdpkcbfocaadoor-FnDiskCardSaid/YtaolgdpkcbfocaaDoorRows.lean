/-
  NARROWER THAN 'FOR EVERY INPUT', by the rows' own cells (each row's printed sentence says how): FnExactEncodeReply: laid · FnExactEncodeCall: laid · FnExactEncodeRecords: laid · FnExactEncodeMsg: laid · FnExactDiskWrite: ifaces, laid · FnDisk: ifaces, laid.
  DERIVED. THE GIVEN ROWS OF THIS SEAT. 6 by the template 'for every input the law returns true; each argument reads behind the call as it read before'; 0 by the template 'total and deterministic' (their statements: YtaolgdpkcbfocaaDoorTotals.lean).
  GIVEN WITH THE SEED: the statements are not yours to turn. If you find one false, say at which input.
  Laid BY PROGRAM, IN A SANDBOX (cutbox-rows.mjs): the forced cells as the released guide's own fill.sh prints them over the translation 18fc88db905bf546… (all of the seat's roots in one cut). By AI agents, Wed Nov 11 2026. No macro, syntax, notation, axiom, sorry.
-/
import Derived.Test.YtaolgdpkcbfocaaDoorChecked
import GoSem.Claim
import GoSem.ClaimJoined
import GoSem.ClaimMapViews
import Derived.JoinedTies
import Derived.KernelRfl
namespace Go.Proofs.YtaolgdpkcbfocaaDoor
/- THE CELL 'sum', in the pinned program and in every row, IS THE sha256 OF THE DUMP (.gsa) THAT YtaolgdpkcbfocaaDoorProg.lean LOADS. Nothing in Lean hashes anything: it is a label: what it is worth is what the hold of that sum in a sandbox is worth. -/
noncomputable def Tryd.pinned : Pinned := { name := "ytaolgdpkcbfocaadoor", sum := "18fc88db905bf5464023fea33797b88157719c5ff7322db76fbbb2e12265c1e6", checked := Tryd.checked }
namespace Rows
def none {H : Type} : Left H := { results := [], args := [] }

/- WHAT THE LISTED PACKAGE-LEVEL VARIABLES READ AS WHEN THE CALL BEGINS. Each datum BY PROGRAM (the guide's laid-datum.mjs) off the statement by which the dump's own 'gosem.cut.vars' lays the variable. In a bare row this is a premise. The card (YtaolgdpkcbfocaaDoorCards.lean) ties it to the program's text. -/
def laid_loop_example_s01586_impl_nibbles {H : Type} : DataW H := .agg [.lit (.int .u32 0), .lit (.int .u32 498536548), .lit (.int .u32 997073096), .lit (.int .u32 651767980), .lit (.int .u32 1994146192), .lit (.int .u32 1802195444), .lit (.int .u32 1303535960), .lit (.int .u32 1342533948), .lit (.int .u32 3988292384), .lit (.int .u32 4027552580), .lit (.int .u32 3604390888), .lit (.int .u32 3412177804), .lit (.int .u32 2607071920), .lit (.int .u32 2262029012), .lit (.int .u32 2685067896), .lit (.int .u32 3183342108)]
def laid_loop_example_s01586_impl_errFull {H : Type} : DataW H := .iface "*errors.errorString" (.ptr (.agg [.lit (.string [116, 104, 101, 32, 100, 105, 115, 107, 32, 105, 115, 32, 102, 117, 108, 108])]))

/-- 'laws.FnExactEncodeReply': WHATEVER THE INPUT: true; the input reads as it did. -/
def fnExactEncodeReplySpec : ChangeSpec := { name := "fnExactEncodeReply", vars := ["loop.example/s01586/impl.nibbles"], fn := fun _ => fun
  | [d, g1] => { results := [.lit (.bool true)], args := [d], vars := [g1] }
  | _ => none }
def fnExactEncodeReplyRow : OpenClaim := { program := "ytaolgdpkcbfocaadoor", sum := "18fc88db905bf5464023fea33797b88157719c5ff7322db76fbbb2e12265c1e6", func := "loop.example/s01586/laws.FnExactEncodeReply", spec := "fnExactEncodeReply", unfollowed := true, recurses := true, named := ["loop.example/s01586/impl.nibbles"], apart := false, laid := [("loop.example/s01586/impl.nibbles", laid_loop_example_s01586_impl_nibbles)] }
def FnExactEncodeReplySaid : Prop := fnExactEncodeReplyRow.holds Tryd.pinned (OpenSpec.ofChange fnExactEncodeReplySpec)

/-- ITS FALSE NEIGHBOUR: 'it returns false'. Refute it at one input. -/
def fnExactEncodeReplyWrong : ChangeSpec := { name := "fnExactEncodeReply", vars := ["loop.example/s01586/impl.nibbles"], fn := fun _ => fun
  | [d, g1] => { results := [.lit (.bool false)], args := [d], vars := [g1] }
  | _ => none }
def FnExactEncodeReplyWrongFalsely : Prop := fnExactEncodeReplyRow.holds Tryd.pinned (OpenSpec.ofChange fnExactEncodeReplyWrong)

/-- 'laws.FnExactEncodeCall': WHATEVER THE INPUT: true; the input reads as it did. -/
def fnExactEncodeCallSpec : ChangeSpec := { name := "fnExactEncodeCall", vars := ["loop.example/s01586/impl.nibbles"], fn := fun _ => fun
  | [d, g1] => { results := [.lit (.bool true)], args := [d], vars := [g1] }
  | _ => none }
def fnExactEncodeCallRow : OpenClaim := { program := "ytaolgdpkcbfocaadoor", sum := "18fc88db905bf5464023fea33797b88157719c5ff7322db76fbbb2e12265c1e6", func := "loop.example/s01586/laws.FnExactEncodeCall", spec := "fnExactEncodeCall", unfollowed := true, recurses := true, named := ["loop.example/s01586/impl.nibbles"], apart := false, laid := [("loop.example/s01586/impl.nibbles", laid_loop_example_s01586_impl_nibbles)] }
def FnExactEncodeCallSaid : Prop := fnExactEncodeCallRow.holds Tryd.pinned (OpenSpec.ofChange fnExactEncodeCallSpec)

/-- ITS FALSE NEIGHBOUR: 'it returns false'. Refute it at one input. -/
def fnExactEncodeCallWrong : ChangeSpec := { name := "fnExactEncodeCall", vars := ["loop.example/s01586/impl.nibbles"], fn := fun _ => fun
  | [d, g1] => { results := [.lit (.bool false)], args := [d], vars := [g1] }
  | _ => none }
def FnExactEncodeCallWrongFalsely : Prop := fnExactEncodeCallRow.holds Tryd.pinned (OpenSpec.ofChange fnExactEncodeCallWrong)

/-- 'laws.FnExactEncodeRecords': WHATEVER THE INPUT: true; the input reads as it did. -/
def fnExactEncodeRecordsSpec : ChangeSpec := { name := "fnExactEncodeRecords", vars := ["loop.example/s01586/impl.nibbles"], fn := fun _ => fun
  | [d, g1] => { results := [.lit (.bool true)], args := [d], vars := [g1] }
  | _ => none }
def fnExactEncodeRecordsRow : OpenClaim := { program := "ytaolgdpkcbfocaadoor", sum := "18fc88db905bf5464023fea33797b88157719c5ff7322db76fbbb2e12265c1e6", func := "loop.example/s01586/laws.FnExactEncodeRecords", spec := "fnExactEncodeRecords", unfollowed := true, recurses := true, named := ["loop.example/s01586/impl.nibbles"], apart := false, laid := [("loop.example/s01586/impl.nibbles", laid_loop_example_s01586_impl_nibbles)] }
def FnExactEncodeRecordsSaid : Prop := fnExactEncodeRecordsRow.holds Tryd.pinned (OpenSpec.ofChange fnExactEncodeRecordsSpec)

/-- ITS FALSE NEIGHBOUR: 'it returns false'. Refute it at one input. -/
def fnExactEncodeRecordsWrong : ChangeSpec := { name := "fnExactEncodeRecords", vars := ["loop.example/s01586/impl.nibbles"], fn := fun _ => fun
  | [d, g1] => { results := [.lit (.bool false)], args := [d], vars := [g1] }
  | _ => none }
def FnExactEncodeRecordsWrongFalsely : Prop := fnExactEncodeRecordsRow.holds Tryd.pinned (OpenSpec.ofChange fnExactEncodeRecordsWrong)

/-- 'laws.FnExactEncodeMsg': WHATEVER THE INPUT: true; the input reads as it did. -/
def fnExactEncodeMsgSpec : ChangeSpec := { name := "fnExactEncodeMsg", vars := ["loop.example/s01586/impl.nibbles"], fn := fun _ => fun
  | [d, g1] => { results := [.lit (.bool true)], args := [d], vars := [g1] }
  | _ => none }
def fnExactEncodeMsgRow : OpenClaim := { program := "ytaolgdpkcbfocaadoor", sum := "18fc88db905bf5464023fea33797b88157719c5ff7322db76fbbb2e12265c1e6", func := "loop.example/s01586/laws.FnExactEncodeMsg", spec := "fnExactEncodeMsg", unfollowed := true, recurses := true, named := ["loop.example/s01586/impl.nibbles"], apart := false, laid := [("loop.example/s01586/impl.nibbles", laid_loop_example_s01586_impl_nibbles)] }
def FnExactEncodeMsgSaid : Prop := fnExactEncodeMsgRow.holds Tryd.pinned (OpenSpec.ofChange fnExactEncodeMsgSpec)

/-- ITS FALSE NEIGHBOUR: 'it returns false'. Refute it at one input. -/
def fnExactEncodeMsgWrong : ChangeSpec := { name := "fnExactEncodeMsg", vars := ["loop.example/s01586/impl.nibbles"], fn := fun _ => fun
  | [d, g1] => { results := [.lit (.bool false)], args := [d], vars := [g1] }
  | _ => none }
def FnExactEncodeMsgWrongFalsely : Prop := fnExactEncodeMsgRow.holds Tryd.pinned (OpenSpec.ofChange fnExactEncodeMsgWrong)

/-- 'laws.FnExactDiskWrite': WHATEVER THE INPUT: true; the input reads as it did. -/
def fnExactDiskWriteSpec : ChangeSpec := { name := "fnExactDiskWrite", vars := ["loop.example/s01586/impl.errFull", "loop.example/s01586/impl.nibbles"], fn := fun _ => fun
  | [d1, d2, g1, g2] => { results := [.lit (.bool true)], args := [d1, d2], vars := [g1, g2] }
  | _ => none }
def fnExactDiskWriteRow : OpenClaim := { program := "ytaolgdpkcbfocaadoor", sum := "18fc88db905bf5464023fea33797b88157719c5ff7322db76fbbb2e12265c1e6", func := "loop.example/s01586/laws.FnExactDiskWrite", spec := "fnExactDiskWrite", inPlace := ["internal/reflectlite.TypeOf"], unfollowed := true, recurses := true, named := ["loop.example/s01586/impl.errFull", "loop.example/s01586/impl.nibbles"], ifaces := true, apart := false, laid := [("loop.example/s01586/impl.nibbles", laid_loop_example_s01586_impl_nibbles), ("loop.example/s01586/impl.errFull", laid_loop_example_s01586_impl_errFull)] }
def FnExactDiskWriteSaid : Prop := fnExactDiskWriteRow.holds Tryd.pinned (OpenSpec.ofChange fnExactDiskWriteSpec)

/-- ITS FALSE NEIGHBOUR: 'it returns false'. Refute it at one input. -/
def fnExactDiskWriteWrong : ChangeSpec := { name := "fnExactDiskWrite", vars := ["loop.example/s01586/impl.errFull", "loop.example/s01586/impl.nibbles"], fn := fun _ => fun
  | [d1, d2, g1, g2] => { results := [.lit (.bool false)], args := [d1, d2], vars := [g1, g2] }
  | _ => none }
def FnExactDiskWriteWrongFalsely : Prop := fnExactDiskWriteRow.holds Tryd.pinned (OpenSpec.ofChange fnExactDiskWriteWrong)

/-- 'laws.FnDisk': WHATEVER THE INPUT: true; the input reads as it did. -/
def fnDiskSpec : ChangeSpec := { name := "fnDisk", vars := ["loop.example/s01586/impl.nibbles", "loop.example/s01586/impl.errFull"], fn := fun _ => fun
  | [d1, d2, g1, g2] => { results := [.lit (.bool true)], args := [d1, d2], vars := [g1, g2] }
  | _ => none }
def fnDiskRow : OpenClaim := { program := "ytaolgdpkcbfocaadoor", sum := "18fc88db905bf5464023fea33797b88157719c5ff7322db76fbbb2e12265c1e6", func := "loop.example/s01586/laws.FnDisk", spec := "fnDisk", inPlace := ["internal/reflectlite.TypeOf"], unfollowed := true, recurses := true, named := ["loop.example/s01586/impl.nibbles", "loop.example/s01586/impl.errFull"], ifaces := true, apart := false, laid := [("loop.example/s01586/impl.nibbles", laid_loop_example_s01586_impl_nibbles), ("loop.example/s01586/impl.errFull", laid_loop_example_s01586_impl_errFull)] }
def FnDiskSaid : Prop := fnDiskRow.holds Tryd.pinned (OpenSpec.ofChange fnDiskSpec)

/-- ITS FALSE NEIGHBOUR: 'it returns false'. Refute it at one input. -/
def fnDiskWrong : ChangeSpec := { name := "fnDisk", vars := ["loop.example/s01586/impl.nibbles", "loop.example/s01586/impl.errFull"], fn := fun _ => fun
  | [d1, d2, g1, g2] => { results := [.lit (.bool false)], args := [d1, d2], vars := [g1, g2] }
  | _ => none }
def FnDiskWrongFalsely : Prop := fnDiskRow.holds Tryd.pinned (OpenSpec.ofChange fnDiskWrong)

/- THE SECOND FORM. 'bulk': how many values and letters a reading holds, each counted each time it is reached (what is shared counts as often as it is met; a slice's spare places count too). A statement '..UptoSaid' is the law's where the arguments, and the package variables that the reading takes, are together of bulk at most 1048576: NARROWER than '..Said'. Prove '..Said' where nothing that the law and all that it calls make is longer than what came in: it says more and counts as full. Else prove '..UptoSaid'. A law counts once. -/
mutual
def uptoBulk {H : Type} : DataW H → Nat
  | .lit (.string bytes) => bytes.length + 1
  | .lit _ => 1
  | .nil => 1
  | .ptr d => uptoBulk d + 1
  | .slice elems spare => uptoBulkAll elems + uptoBulkAll spare + 1
  | .agg parts => uptoBulkAll parts + 1
  | .iface _ d => uptoBulk d + 1
  | .map entries => uptoBulkEntries entries + 1
  | .held _ => 1
def uptoBulkAll {H : Type} : List (DataW H) → Nat
  | [] => 0
  | d :: r => uptoBulk d + uptoBulkAll r
def uptoBulkEntries {H : Type} : List (Lit × DataW H) → Nat
  | [] => 0
  | x :: r => uptoBulkEntry x + uptoBulkEntries r
def uptoBulkEntry {H : Type} : Lit × DataW H → Nat
  | (.string bytes, d) => bytes.length + uptoBulk d + 1
  | (_, d) => uptoBulk d + 1
 end
def uptoSmall : (H : Type) → List (DataW H) → Bool := fun _ ds => decide (uptoBulkAll ds ≤ 1048576)
def OpenSpec.upto (s : _root_.Go.ChangeSpec) : _root_.Go.OpenSpec := { _root_.Go.OpenSpec.ofChange s with cond := some uptoSmall }

/-- 'laws.FnExactEncodeReply', WHERE WHAT IT READS IS OF BULK AT MOST 1048576: true; the input reads as it did. -/
def fnExactEncodeReplyUptoRow : OpenClaim := { program := "ytaolgdpkcbfocaadoor", sum := "18fc88db905bf5464023fea33797b88157719c5ff7322db76fbbb2e12265c1e6", func := "loop.example/s01586/laws.FnExactEncodeReply", spec := "fnExactEncodeReply", unfollowed := true, recurses := true, named := ["loop.example/s01586/impl.nibbles"], apart := false, laid := [("loop.example/s01586/impl.nibbles", laid_loop_example_s01586_impl_nibbles)], narrowed := true }
def FnExactEncodeReplyUptoSaid : Prop := fnExactEncodeReplyUptoRow.holds Tryd.pinned (OpenSpec.upto fnExactEncodeReplySpec)

/-- 'laws.FnExactEncodeCall', WHERE WHAT IT READS IS OF BULK AT MOST 1048576: true; the input reads as it did. -/
def fnExactEncodeCallUptoRow : OpenClaim := { program := "ytaolgdpkcbfocaadoor", sum := "18fc88db905bf5464023fea33797b88157719c5ff7322db76fbbb2e12265c1e6", func := "loop.example/s01586/laws.FnExactEncodeCall", spec := "fnExactEncodeCall", unfollowed := true, recurses := true, named := ["loop.example/s01586/impl.nibbles"], apart := false, laid := [("loop.example/s01586/impl.nibbles", laid_loop_example_s01586_impl_nibbles)], narrowed := true }
def FnExactEncodeCallUptoSaid : Prop := fnExactEncodeCallUptoRow.holds Tryd.pinned (OpenSpec.upto fnExactEncodeCallSpec)

/-- 'laws.FnExactEncodeRecords', WHERE WHAT IT READS IS OF BULK AT MOST 1048576: true; the input reads as it did. -/
def fnExactEncodeRecordsUptoRow : OpenClaim := { program := "ytaolgdpkcbfocaadoor", sum := "18fc88db905bf5464023fea33797b88157719c5ff7322db76fbbb2e12265c1e6", func := "loop.example/s01586/laws.FnExactEncodeRecords", spec := "fnExactEncodeRecords", unfollowed := true, recurses := true, named := ["loop.example/s01586/impl.nibbles"], apart := false, laid := [("loop.example/s01586/impl.nibbles", laid_loop_example_s01586_impl_nibbles)], narrowed := true }
def FnExactEncodeRecordsUptoSaid : Prop := fnExactEncodeRecordsUptoRow.holds Tryd.pinned (OpenSpec.upto fnExactEncodeRecordsSpec)

/-- 'laws.FnExactEncodeMsg', WHERE WHAT IT READS IS OF BULK AT MOST 1048576: true; the input reads as it did. -/
def fnExactEncodeMsgUptoRow : OpenClaim := { program := "ytaolgdpkcbfocaadoor", sum := "18fc88db905bf5464023fea33797b88157719c5ff7322db76fbbb2e12265c1e6", func := "loop.example/s01586/laws.FnExactEncodeMsg", spec := "fnExactEncodeMsg", unfollowed := true, recurses := true, named := ["loop.example/s01586/impl.nibbles"], apart := false, laid := [("loop.example/s01586/impl.nibbles", laid_loop_example_s01586_impl_nibbles)], narrowed := true }
def FnExactEncodeMsgUptoSaid : Prop := fnExactEncodeMsgUptoRow.holds Tryd.pinned (OpenSpec.upto fnExactEncodeMsgSpec)

/-- 'laws.FnExactDiskWrite', WHERE WHAT IT READS IS OF BULK AT MOST 1048576: true; the input reads as it did. -/
def fnExactDiskWriteUptoRow : OpenClaim := { program := "ytaolgdpkcbfocaadoor", sum := "18fc88db905bf5464023fea33797b88157719c5ff7322db76fbbb2e12265c1e6", func := "loop.example/s01586/laws.FnExactDiskWrite", spec := "fnExactDiskWrite", inPlace := ["internal/reflectlite.TypeOf"], unfollowed := true, recurses := true, named := ["loop.example/s01586/impl.errFull", "loop.example/s01586/impl.nibbles"], ifaces := true, apart := false, laid := [("loop.example/s01586/impl.nibbles", laid_loop_example_s01586_impl_nibbles), ("loop.example/s01586/impl.errFull", laid_loop_example_s01586_impl_errFull)], narrowed := true }
def FnExactDiskWriteUptoSaid : Prop := fnExactDiskWriteUptoRow.holds Tryd.pinned (OpenSpec.upto fnExactDiskWriteSpec)

/-- 'laws.FnDisk', WHERE WHAT IT READS IS OF BULK AT MOST 1048576: true; the input reads as it did. -/
def fnDiskUptoRow : OpenClaim := { program := "ytaolgdpkcbfocaadoor", sum := "18fc88db905bf5464023fea33797b88157719c5ff7322db76fbbb2e12265c1e6", func := "loop.example/s01586/laws.FnDisk", spec := "fnDisk", inPlace := ["internal/reflectlite.TypeOf"], unfollowed := true, recurses := true, named := ["loop.example/s01586/impl.nibbles", "loop.example/s01586/impl.errFull"], ifaces := true, apart := false, laid := [("loop.example/s01586/impl.nibbles", laid_loop_example_s01586_impl_nibbles), ("loop.example/s01586/impl.errFull", laid_loop_example_s01586_impl_errFull)], narrowed := true }
def FnDiskUptoSaid : Prop := fnDiskUptoRow.holds Tryd.pinned (OpenSpec.upto fnDiskSpec)

end Rows
end Go.Proofs.YtaolgdpkcbfocaaDoor
