/-
  No cell of these rows narrows 'for every input' (looked for: loops, veiled, ifaces, maps, wideKeys, modest, calm, conditions, laid).
  DERIVED. THE GIVEN ROWS OF THIS SEAT. 11 by the template 'for every input the law returns true; each argument reads behind the call as it read before'; 0 by the template 'total and deterministic' (their statements: YtmiocbonmknioaaTotals.lean).
  GIVEN WITH THE SEED: the statements are not yours to turn. If you find one false, say at which input.
  Laid BY PROGRAM, IN A SANDBOX (cutbox-rows.mjs): the forced cells as the released guide's own fill.sh prints them over the translation 9c18906604b14bad… (all of the seat's roots in one cut). By AI agents, Wed Nov 11 2026. No macro, syntax, notation, axiom, sorry.
-/
import Derived.Test.YtmiocbonmknioaaChecked
import GoSem.Claim
import GoSem.ClaimJoined
import GoSem.ClaimMapViews
import Derived.JoinedTies
import Derived.KernelRfl
namespace Go.Proofs.Ytmiocbonmknioaa
/- THE CELL 'sum', in the pinned program and in every row, IS THE sha256 OF THE DUMP (.gsa) THAT YtmiocbonmknioaaProg.lean LOADS. Nothing in Lean hashes anything: it is a label: what it is worth is what the hold of that sum in a sandbox is worth. -/
noncomputable def Try.pinned : Pinned := { name := "ytmiocbonmknioaa", sum := "9c18906604b14bad16c87d9d18c8a78463e8b2903f13a9cf327735cc028e9d58", checked := Try.checked }
namespace Rows
def none {H : Type} : Left H := { results := [], args := [] }

/-- 'laws.FnExactConstants': WHATEVER THE INPUT: true; the input reads as it did. -/
def fnExactConstantsSpec : ChangeSpec := { name := "fnExactConstants", fn := fun _ => fun
  | [] => { results := [.lit (.bool true)], args := [] }
  | _ => none }
def fnExactConstantsRow : OpenClaim := { program := "ytmiocbonmknioaa", sum := "9c18906604b14bad16c87d9d18c8a78463e8b2903f13a9cf327735cc028e9d58", func := "loop.example/s01586/laws.FnExactConstants", spec := "fnExactConstants", apart := false }
def FnExactConstantsSaid : Prop := fnExactConstantsRow.holds Try.pinned (OpenSpec.ofChange fnExactConstantsSpec)

/-- ITS FALSE NEIGHBOUR: 'it returns false'. Refute it at one input. -/
def fnExactConstantsWrong : ChangeSpec := { name := "fnExactConstants", fn := fun _ => fun
  | [] => { results := [.lit (.bool false)], args := [] }
  | _ => none }
def FnExactConstantsWrongFalsely : Prop := fnExactConstantsRow.holds Try.pinned (OpenSpec.ofChange fnExactConstantsWrong)

/-- 'laws.FnExactTimeoutOf': WHATEVER THE INPUT: true; the input reads as it did. -/
def fnExactTimeoutOfSpec : ChangeSpec := { name := "fnExactTimeoutOf", fn := fun _ => fun
  | [d1, d2] => { results := [.lit (.bool true)], args := [d1, d2] }
  | _ => none }
def fnExactTimeoutOfRow : OpenClaim := { program := "ytmiocbonmknioaa", sum := "9c18906604b14bad16c87d9d18c8a78463e8b2903f13a9cf327735cc028e9d58", func := "loop.example/s01586/laws.FnExactTimeoutOf", spec := "fnExactTimeoutOf", apart := false }
def FnExactTimeoutOfSaid : Prop := fnExactTimeoutOfRow.holds Try.pinned (OpenSpec.ofChange fnExactTimeoutOfSpec)

/-- ITS FALSE NEIGHBOUR: 'it returns false'. Refute it at one input. -/
def fnExactTimeoutOfWrong : ChangeSpec := { name := "fnExactTimeoutOf", fn := fun _ => fun
  | [d1, d2] => { results := [.lit (.bool false)], args := [d1, d2] }
  | _ => none }
def FnExactTimeoutOfWrongFalsely : Prop := fnExactTimeoutOfRow.holds Try.pinned (OpenSpec.ofChange fnExactTimeoutOfWrong)

/-- 'laws.FnExactSlotDraw': WHATEVER THE INPUT: true; the input reads as it did. -/
def fnExactSlotDrawSpec : ChangeSpec := { name := "fnExactSlotDraw", fn := fun _ => fun
  | [d1, d2, d3, d4] => { results := [.lit (.bool true)], args := [d1, d2, d3, d4] }
  | _ => none }
def fnExactSlotDrawRow : OpenClaim := { program := "ytmiocbonmknioaa", sum := "9c18906604b14bad16c87d9d18c8a78463e8b2903f13a9cf327735cc028e9d58", func := "loop.example/s01586/laws.FnExactSlotDraw", spec := "fnExactSlotDraw", apart := false }
def FnExactSlotDrawSaid : Prop := fnExactSlotDrawRow.holds Try.pinned (OpenSpec.ofChange fnExactSlotDrawSpec)

/-- ITS FALSE NEIGHBOUR: 'it returns false'. Refute it at one input. -/
def fnExactSlotDrawWrong : ChangeSpec := { name := "fnExactSlotDraw", fn := fun _ => fun
  | [d1, d2, d3, d4] => { results := [.lit (.bool false)], args := [d1, d2, d3, d4] }
  | _ => none }
def FnExactSlotDrawWrongFalsely : Prop := fnExactSlotDrawRow.holds Try.pinned (OpenSpec.ofChange fnExactSlotDrawWrong)

/-- 'laws.FnExactSetupFault': WHATEVER THE INPUT: true; the input reads as it did. -/
def fnExactSetupFaultSpec : ChangeSpec := { name := "fnExactSetupFault", fn := fun _ => fun
  | [d] => { results := [.lit (.bool true)], args := [d] }
  | _ => none }
def fnExactSetupFaultRow : OpenClaim := { program := "ytmiocbonmknioaa", sum := "9c18906604b14bad16c87d9d18c8a78463e8b2903f13a9cf327735cc028e9d58", func := "loop.example/s01586/laws.FnExactSetupFault", spec := "fnExactSetupFault", apart := false }
def FnExactSetupFaultSaid : Prop := fnExactSetupFaultRow.holds Try.pinned (OpenSpec.ofChange fnExactSetupFaultSpec)

/-- ITS FALSE NEIGHBOUR: 'it returns false'. Refute it at one input. -/
def fnExactSetupFaultWrong : ChangeSpec := { name := "fnExactSetupFault", fn := fun _ => fun
  | [d] => { results := [.lit (.bool false)], args := [d] }
  | _ => none }
def FnExactSetupFaultWrongFalsely : Prop := fnExactSetupFaultRow.holds Try.pinned (OpenSpec.ofChange fnExactSetupFaultWrong)

/-- 'laws.FnExactWindowBound': WHATEVER THE INPUT: true; the input reads as it did. -/
def fnExactWindowBoundSpec : ChangeSpec := { name := "fnExactWindowBound", fn := fun _ => fun
  | [d1, d2, d3] => { results := [.lit (.bool true)], args := [d1, d2, d3] }
  | _ => none }
def fnExactWindowBoundRow : OpenClaim := { program := "ytmiocbonmknioaa", sum := "9c18906604b14bad16c87d9d18c8a78463e8b2903f13a9cf327735cc028e9d58", func := "loop.example/s01586/laws.FnExactWindowBound", spec := "fnExactWindowBound", apart := false }
def FnExactWindowBoundSaid : Prop := fnExactWindowBoundRow.holds Try.pinned (OpenSpec.ofChange fnExactWindowBoundSpec)

/-- ITS FALSE NEIGHBOUR: 'it returns false'. Refute it at one input. -/
def fnExactWindowBoundWrong : ChangeSpec := { name := "fnExactWindowBound", fn := fun _ => fun
  | [d1, d2, d3] => { results := [.lit (.bool false)], args := [d1, d2, d3] }
  | _ => none }
def FnExactWindowBoundWrongFalsely : Prop := fnExactWindowBoundRow.holds Try.pinned (OpenSpec.ofChange fnExactWindowBoundWrong)

/-- 'laws.FnSlots': WHATEVER THE INPUT: true; the input reads as it did. -/
def fnSlotsSpec : ChangeSpec := { name := "fnSlots", fn := fun _ => fun
  | [d1, d2] => { results := [.lit (.bool true)], args := [d1, d2] }
  | _ => none }
def fnSlotsRow : OpenClaim := { program := "ytmiocbonmknioaa", sum := "9c18906604b14bad16c87d9d18c8a78463e8b2903f13a9cf327735cc028e9d58", func := "loop.example/s01586/laws.FnSlots", spec := "fnSlots", apart := false }
def FnSlotsSaid : Prop := fnSlotsRow.holds Try.pinned (OpenSpec.ofChange fnSlotsSpec)

/-- ITS FALSE NEIGHBOUR: 'it returns false'. Refute it at one input. -/
def fnSlotsWrong : ChangeSpec := { name := "fnSlots", fn := fun _ => fun
  | [d1, d2] => { results := [.lit (.bool false)], args := [d1, d2] }
  | _ => none }
def FnSlotsWrongFalsely : Prop := fnSlotsRow.holds Try.pinned (OpenSpec.ofChange fnSlotsWrong)

/-- 'laws.FnExactSpoil': WHATEVER THE INPUT: true; the input reads as it did. -/
def fnExactSpoilSpec : ChangeSpec := { name := "fnExactSpoil", fn := fun _ => fun
  | [d1, d2, d3] => { results := [.lit (.bool true)], args := [d1, d2, d3] }
  | _ => none }
def fnExactSpoilRow : OpenClaim := { program := "ytmiocbonmknioaa", sum := "9c18906604b14bad16c87d9d18c8a78463e8b2903f13a9cf327735cc028e9d58", func := "loop.example/s01586/laws.FnExactSpoil", spec := "fnExactSpoil", apart := false }
def FnExactSpoilSaid : Prop := fnExactSpoilRow.holds Try.pinned (OpenSpec.ofChange fnExactSpoilSpec)

/-- ITS FALSE NEIGHBOUR: 'it returns false'. Refute it at one input. -/
def fnExactSpoilWrong : ChangeSpec := { name := "fnExactSpoil", fn := fun _ => fun
  | [d1, d2, d3] => { results := [.lit (.bool false)], args := [d1, d2, d3] }
  | _ => none }
def FnExactSpoilWrongFalsely : Prop := fnExactSpoilRow.holds Try.pinned (OpenSpec.ofChange fnExactSpoilWrong)

/-- 'laws.FnExactCmdFault': WHATEVER THE INPUT: true; the input reads as it did. -/
def fnExactCmdFaultSpec : ChangeSpec := { name := "fnExactCmdFault", fn := fun _ => fun
  | [d] => { results := [.lit (.bool true)], args := [d] }
  | _ => none }
def fnExactCmdFaultRow : OpenClaim := { program := "ytmiocbonmknioaa", sum := "9c18906604b14bad16c87d9d18c8a78463e8b2903f13a9cf327735cc028e9d58", func := "loop.example/s01586/laws.FnExactCmdFault", spec := "fnExactCmdFault", apart := false }
def FnExactCmdFaultSaid : Prop := fnExactCmdFaultRow.holds Try.pinned (OpenSpec.ofChange fnExactCmdFaultSpec)

/-- ITS FALSE NEIGHBOUR: 'it returns false'. Refute it at one input. -/
def fnExactCmdFaultWrong : ChangeSpec := { name := "fnExactCmdFault", fn := fun _ => fun
  | [d] => { results := [.lit (.bool false)], args := [d] }
  | _ => none }
def FnExactCmdFaultWrongFalsely : Prop := fnExactCmdFaultRow.holds Try.pinned (OpenSpec.ofChange fnExactCmdFaultWrong)

/-- 'laws.FnExactDiskSync': WHATEVER THE INPUT: true; the input reads as it did. -/
def fnExactDiskSyncSpec : ChangeSpec := { name := "fnExactDiskSync", fn := fun _ => fun
  | [d] => { results := [.lit (.bool true)], args := [d] }
  | _ => none }
def fnExactDiskSyncRow : OpenClaim := { program := "ytmiocbonmknioaa", sum := "9c18906604b14bad16c87d9d18c8a78463e8b2903f13a9cf327735cc028e9d58", func := "loop.example/s01586/laws.FnExactDiskSync", spec := "fnExactDiskSync", apart := false }
def FnExactDiskSyncSaid : Prop := fnExactDiskSyncRow.holds Try.pinned (OpenSpec.ofChange fnExactDiskSyncSpec)

/-- ITS FALSE NEIGHBOUR: 'it returns false'. Refute it at one input. -/
def fnExactDiskSyncWrong : ChangeSpec := { name := "fnExactDiskSync", fn := fun _ => fun
  | [d] => { results := [.lit (.bool false)], args := [d] }
  | _ => none }
def FnExactDiskSyncWrongFalsely : Prop := fnExactDiskSyncRow.holds Try.pinned (OpenSpec.ofChange fnExactDiskSyncWrong)

/-- 'laws.FnExactDiskCrash': WHATEVER THE INPUT: true; the input reads as it did. -/
def fnExactDiskCrashSpec : ChangeSpec := { name := "fnExactDiskCrash", fn := fun _ => fun
  | [d1, d2] => { results := [.lit (.bool true)], args := [d1, d2] }
  | _ => none }
def fnExactDiskCrashRow : OpenClaim := { program := "ytmiocbonmknioaa", sum := "9c18906604b14bad16c87d9d18c8a78463e8b2903f13a9cf327735cc028e9d58", func := "loop.example/s01586/laws.FnExactDiskCrash", spec := "fnExactDiskCrash", apart := false }
def FnExactDiskCrashSaid : Prop := fnExactDiskCrashRow.holds Try.pinned (OpenSpec.ofChange fnExactDiskCrashSpec)

/-- ITS FALSE NEIGHBOUR: 'it returns false'. Refute it at one input. -/
def fnExactDiskCrashWrong : ChangeSpec := { name := "fnExactDiskCrash", fn := fun _ => fun
  | [d1, d2] => { results := [.lit (.bool false)], args := [d1, d2] }
  | _ => none }
def FnExactDiskCrashWrongFalsely : Prop := fnExactDiskCrashRow.holds Try.pinned (OpenSpec.ofChange fnExactDiskCrashWrong)

/-- 'laws.FnExactFeedRun': WHATEVER THE INPUT: true; the input reads as it did. -/
def fnExactFeedRunSpec : ChangeSpec := { name := "fnExactFeedRun", fn := fun _ => fun
  | [d1, d2] => { results := [.lit (.bool true)], args := [d1, d2] }
  | _ => none }
def fnExactFeedRunRow : OpenClaim := { program := "ytmiocbonmknioaa", sum := "9c18906604b14bad16c87d9d18c8a78463e8b2903f13a9cf327735cc028e9d58", func := "loop.example/s01586/laws.FnExactFeedRun", spec := "fnExactFeedRun", inPlace := ["(*sync.WaitGroup).Add", "internal/race.ReleaseMerge", "internal/race.Disable", "internal/race.Enable", "internal/synctest.IsInBubble", "internal/synctest.Associate[sync.WaitGroup]", "sync.fatal", "sync/atomic.OrUint64", "sync/atomic.AddUint64", "internal/race.Read", "sync/atomic.LoadUint64", "sync/atomic.StoreUint64", "internal/synctest.Disassociate[sync.WaitGroup]", "sync.runtime_Semrelease", "(*sync.WaitGroup).Done", "(*sync.WaitGroup).Wait", "internal/race.Acquire", "internal/synctest.IsAssociated[sync.WaitGroup]", "sync/atomic.CompareAndSwapUint64", "internal/race.Write", "sync.runtime_SemacquireWaitGroup"], unfollowed := true, recurses := true, leaving := true, apart := false }
def FnExactFeedRunSaid : Prop := fnExactFeedRunRow.holds Try.pinned (OpenSpec.ofChange fnExactFeedRunSpec)

/-- ITS FALSE NEIGHBOUR: 'it returns false'. Refute it at one input. -/
def fnExactFeedRunWrong : ChangeSpec := { name := "fnExactFeedRun", fn := fun _ => fun
  | [d1, d2] => { results := [.lit (.bool false)], args := [d1, d2] }
  | _ => none }
def FnExactFeedRunWrongFalsely : Prop := fnExactFeedRunRow.holds Try.pinned (OpenSpec.ofChange fnExactFeedRunWrong)

/- THE SECOND FORM. 'bulk': how many values and letters a reading holds, each counted each time it is reached (what is shared counts as often as it is met; a slice's spare places count too). A statement '..UptoSaid' is the law's where the arguments, and the package variables that the reading takes, are together of bulk at most 1048576: NARROWER than '..Said'. Prove '..Said' where nothing that the law and all that it calls make is longer than what came in: it says more and counts as full. Else prove '..UptoSaid'. A law counts once. -/
mutual
def uptoBulk {H : Type} : DataW H → Nat
  | .lit (.string bytes) => bytes.length + 1
  | .lit _ => 1
  | .nil => 1
  | .ptr d => uptoBulk d + 1
  | .slice elems spare => uptoBulkAll elems + uptoBulkAll spare + 1
  | .agg parts => uptoBulkAll parts + 1
  | .iface _ d => uptoBulk d + 1
  | .map entries => uptoBulkEntries entries + 1
  | .held _ => 1
def uptoBulkAll {H : Type} : List (DataW H) → Nat
  | [] => 0
  | d :: r => uptoBulk d + uptoBulkAll r
def uptoBulkEntries {H : Type} : List (Lit × DataW H) → Nat
  | [] => 0
  | x :: r => uptoBulkEntry x + uptoBulkEntries r
def uptoBulkEntry {H : Type} : Lit × DataW H → Nat
  | (.string bytes, d) => bytes.length + uptoBulk d + 1
  | (_, d) => uptoBulk d + 1
 end
def uptoSmall : (H : Type) → List (DataW H) → Bool := fun _ ds => decide (uptoBulkAll ds ≤ 1048576)
def OpenSpec.upto (s : _root_.Go.ChangeSpec) : _root_.Go.OpenSpec := { _root_.Go.OpenSpec.ofChange s with cond := some uptoSmall }

/-- 'laws.FnExactConstants', WHERE WHAT IT READS IS OF BULK AT MOST 1048576: true; the input reads as it did. -/
def fnExactConstantsUptoRow : OpenClaim := { program := "ytmiocbonmknioaa", sum := "9c18906604b14bad16c87d9d18c8a78463e8b2903f13a9cf327735cc028e9d58", func := "loop.example/s01586/laws.FnExactConstants", spec := "fnExactConstants", apart := false, narrowed := true }
def FnExactConstantsUptoSaid : Prop := fnExactConstantsUptoRow.holds Try.pinned (OpenSpec.upto fnExactConstantsSpec)

/-- 'laws.FnExactTimeoutOf', WHERE WHAT IT READS IS OF BULK AT MOST 1048576: true; the input reads as it did. -/
def fnExactTimeoutOfUptoRow : OpenClaim := { program := "ytmiocbonmknioaa", sum := "9c18906604b14bad16c87d9d18c8a78463e8b2903f13a9cf327735cc028e9d58", func := "loop.example/s01586/laws.FnExactTimeoutOf", spec := "fnExactTimeoutOf", apart := false, narrowed := true }
def FnExactTimeoutOfUptoSaid : Prop := fnExactTimeoutOfUptoRow.holds Try.pinned (OpenSpec.upto fnExactTimeoutOfSpec)

/-- 'laws.FnExactSlotDraw', WHERE WHAT IT READS IS OF BULK AT MOST 1048576: true; the input reads as it did. -/
def fnExactSlotDrawUptoRow : OpenClaim := { program := "ytmiocbonmknioaa", sum := "9c18906604b14bad16c87d9d18c8a78463e8b2903f13a9cf327735cc028e9d58", func := "loop.example/s01586/laws.FnExactSlotDraw", spec := "fnExactSlotDraw", apart := false, narrowed := true }
def FnExactSlotDrawUptoSaid : Prop := fnExactSlotDrawUptoRow.holds Try.pinned (OpenSpec.upto fnExactSlotDrawSpec)

/-- 'laws.FnExactSetupFault', WHERE WHAT IT READS IS OF BULK AT MOST 1048576: true; the input reads as it did. -/
def fnExactSetupFaultUptoRow : OpenClaim := { program := "ytmiocbonmknioaa", sum := "9c18906604b14bad16c87d9d18c8a78463e8b2903f13a9cf327735cc028e9d58", func := "loop.example/s01586/laws.FnExactSetupFault", spec := "fnExactSetupFault", apart := false, narrowed := true }
def FnExactSetupFaultUptoSaid : Prop := fnExactSetupFaultUptoRow.holds Try.pinned (OpenSpec.upto fnExactSetupFaultSpec)

/-- 'laws.FnExactWindowBound', WHERE WHAT IT READS IS OF BULK AT MOST 1048576: true; the input reads as it did. -/
def fnExactWindowBoundUptoRow : OpenClaim := { program := "ytmiocbonmknioaa", sum := "9c18906604b14bad16c87d9d18c8a78463e8b2903f13a9cf327735cc028e9d58", func := "loop.example/s01586/laws.FnExactWindowBound", spec := "fnExactWindowBound", apart := false, narrowed := true }
def FnExactWindowBoundUptoSaid : Prop := fnExactWindowBoundUptoRow.holds Try.pinned (OpenSpec.upto fnExactWindowBoundSpec)

/-- 'laws.FnSlots', WHERE WHAT IT READS IS OF BULK AT MOST 1048576: true; the input reads as it did. -/
def fnSlotsUptoRow : OpenClaim := { program := "ytmiocbonmknioaa", sum := "9c18906604b14bad16c87d9d18c8a78463e8b2903f13a9cf327735cc028e9d58", func := "loop.example/s01586/laws.FnSlots", spec := "fnSlots", apart := false, narrowed := true }
def FnSlotsUptoSaid : Prop := fnSlotsUptoRow.holds Try.pinned (OpenSpec.upto fnSlotsSpec)

/-- 'laws.FnExactSpoil', WHERE WHAT IT READS IS OF BULK AT MOST 1048576: true; the input reads as it did. -/
def fnExactSpoilUptoRow : OpenClaim := { program := "ytmiocbonmknioaa", sum := "9c18906604b14bad16c87d9d18c8a78463e8b2903f13a9cf327735cc028e9d58", func := "loop.example/s01586/laws.FnExactSpoil", spec := "fnExactSpoil", apart := false, narrowed := true }
def FnExactSpoilUptoSaid : Prop := fnExactSpoilUptoRow.holds Try.pinned (OpenSpec.upto fnExactSpoilSpec)

/-- 'laws.FnExactCmdFault', WHERE WHAT IT READS IS OF BULK AT MOST 1048576: true; the input reads as it did. -/
def fnExactCmdFaultUptoRow : OpenClaim := { program := "ytmiocbonmknioaa", sum := "9c18906604b14bad16c87d9d18c8a78463e8b2903f13a9cf327735cc028e9d58", func := "loop.example/s01586/laws.FnExactCmdFault", spec := "fnExactCmdFault", apart := false, narrowed := true }
def FnExactCmdFaultUptoSaid : Prop := fnExactCmdFaultUptoRow.holds Try.pinned (OpenSpec.upto fnExactCmdFaultSpec)

/-- 'laws.FnExactDiskSync', WHERE WHAT IT READS IS OF BULK AT MOST 1048576: true; the input reads as it did. -/
def fnExactDiskSyncUptoRow : OpenClaim := { program := "ytmiocbonmknioaa", sum := "9c18906604b14bad16c87d9d18c8a78463e8b2903f13a9cf327735cc028e9d58", func := "loop.example/s01586/laws.FnExactDiskSync", spec := "fnExactDiskSync", apart := false, narrowed := true }
def FnExactDiskSyncUptoSaid : Prop := fnExactDiskSyncUptoRow.holds Try.pinned (OpenSpec.upto fnExactDiskSyncSpec)

/-- 'laws.FnExactDiskCrash', WHERE WHAT IT READS IS OF BULK AT MOST 1048576: true; the input reads as it did. -/
def fnExactDiskCrashUptoRow : OpenClaim := { program := "ytmiocbonmknioaa", sum := "9c18906604b14bad16c87d9d18c8a78463e8b2903f13a9cf327735cc028e9d58", func := "loop.example/s01586/laws.FnExactDiskCrash", spec := "fnExactDiskCrash", apart := false, narrowed := true }
def FnExactDiskCrashUptoSaid : Prop := fnExactDiskCrashUptoRow.holds Try.pinned (OpenSpec.upto fnExactDiskCrashSpec)

/-- 'laws.FnExactFeedRun', WHERE WHAT IT READS IS OF BULK AT MOST 1048576: true; the input reads as it did. -/
def fnExactFeedRunUptoRow : OpenClaim := { program := "ytmiocbonmknioaa", sum := "9c18906604b14bad16c87d9d18c8a78463e8b2903f13a9cf327735cc028e9d58", func := "loop.example/s01586/laws.FnExactFeedRun", spec := "fnExactFeedRun", inPlace := ["(*sync.WaitGroup).Add", "internal/race.ReleaseMerge", "internal/race.Disable", "internal/race.Enable", "internal/synctest.IsInBubble", "internal/synctest.Associate[sync.WaitGroup]", "sync.fatal", "sync/atomic.OrUint64", "sync/atomic.AddUint64", "internal/race.Read", "sync/atomic.LoadUint64", "sync/atomic.StoreUint64", "internal/synctest.Disassociate[sync.WaitGroup]", "sync.runtime_Semrelease", "(*sync.WaitGroup).Done", "(*sync.WaitGroup).Wait", "internal/race.Acquire", "internal/synctest.IsAssociated[sync.WaitGroup]", "sync/atomic.CompareAndSwapUint64", "internal/race.Write", "sync.runtime_SemacquireWaitGroup"], unfollowed := true, recurses := true, leaving := true, apart := false, narrowed := true }
def FnExactFeedRunUptoSaid : Prop := fnExactFeedRunUptoRow.holds Try.pinned (OpenSpec.upto fnExactFeedRunSpec)

end Rows
end Go.Proofs.Ytmiocbonmknioaa
