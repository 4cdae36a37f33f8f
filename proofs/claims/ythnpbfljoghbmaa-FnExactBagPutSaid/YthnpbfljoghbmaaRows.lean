/-
  No cell of these rows narrows 'for every input' (looked for: loops, veiled, ifaces, maps, wideKeys, modest, calm, conditions, laid).
  DERIVED. THE GIVEN ROWS OF THIS SEAT. 7 by the template 'for every input the law returns true; each argument reads behind the call as it read before'; 0 by the template 'total and deterministic' (their statements: YthnpbfljoghbmaaTotals.lean).
  GIVEN WITH THE SEED: the statements are not yours to turn. If you find one false, say at which input.
  Laid BY PROGRAM, IN A SANDBOX (cutbox-rows.mjs): the forced cells as the released guide's own fill.sh prints them over the translation 6d51baeb2949c20a… (all of the seat's roots in one cut). By AI agents, Wed Nov 11 2026. No macro, syntax, notation, axiom, sorry.
-/
import Derived.Test.YthnpbfljoghbmaaChecked
import GoSem.Claim
import GoSem.ClaimJoined
import GoSem.ClaimMapViews
import Derived.JoinedTies
import Derived.KernelRfl
namespace Go.Proofs.Ythnpbfljoghbmaa
/- THE CELL 'sum', in the pinned program and in every row, IS THE sha256 OF THE DUMP (.gsa) THAT YthnpbfljoghbmaaProg.lean LOADS. Nothing in Lean hashes anything: it is a label: what it is worth is what the hold of that sum in a sandbox is worth. -/
noncomputable def Try.pinned : Pinned := { name := "ythnpbfljoghbmaa", sum := "6d51baeb2949c20abb7155d7ac4e7a4b60fa3b2bd48f616e3a598ed9c564bed0", checked := Try.checked }
namespace Rows
def none {H : Type} : Left H := { results := [], args := [] }

/-- 'laws.FnExactBagPut': WHATEVER THE INPUT: true; the input reads as it did. -/
def fnExactBagPutSpec : ChangeSpec := { name := "fnExactBagPut", fn := fun _ => fun
  | [d1, d2, d3, d4] => { results := [.lit (.bool true)], args := [d1, d2, d3, d4] }
  | _ => none }
def fnExactBagPutRow : OpenClaim := { program := "ythnpbfljoghbmaa", sum := "6d51baeb2949c20abb7155d7ac4e7a4b60fa3b2bd48f616e3a598ed9c564bed0", func := "loop.example/s01586/laws.FnExactBagPut", spec := "fnExactBagPut", plainKeys := false, apart := false }
def FnExactBagPutSaid : Prop := fnExactBagPutRow.holds Try.pinned (OpenSpec.ofChange fnExactBagPutSpec)

/-- ITS FALSE NEIGHBOUR: 'it returns false'. Refute it at one input. -/
def fnExactBagPutWrong : ChangeSpec := { name := "fnExactBagPut", fn := fun _ => fun
  | [d1, d2, d3, d4] => { results := [.lit (.bool false)], args := [d1, d2, d3, d4] }
  | _ => none }
def FnExactBagPutWrongFalsely : Prop := fnExactBagPutRow.holds Try.pinned (OpenSpec.ofChange fnExactBagPutWrong)

/-- 'laws.FnExactBagTake': WHATEVER THE INPUT: true; the input reads as it did. -/
def fnExactBagTakeSpec : ChangeSpec := { name := "fnExactBagTake", fn := fun _ => fun
  | [d1, d2, d3] => { results := [.lit (.bool true)], args := [d1, d2, d3] }
  | _ => none }
def fnExactBagTakeRow : OpenClaim := { program := "ythnpbfljoghbmaa", sum := "6d51baeb2949c20abb7155d7ac4e7a4b60fa3b2bd48f616e3a598ed9c564bed0", func := "loop.example/s01586/laws.FnExactBagTake", spec := "fnExactBagTake", plainKeys := false, apart := false }
def FnExactBagTakeSaid : Prop := fnExactBagTakeRow.holds Try.pinned (OpenSpec.ofChange fnExactBagTakeSpec)

/-- ITS FALSE NEIGHBOUR: 'it returns false'. Refute it at one input. -/
def fnExactBagTakeWrong : ChangeSpec := { name := "fnExactBagTake", fn := fun _ => fun
  | [d1, d2, d3] => { results := [.lit (.bool false)], args := [d1, d2, d3] }
  | _ => none }
def FnExactBagTakeWrongFalsely : Prop := fnExactBagTakeRow.holds Try.pinned (OpenSpec.ofChange fnExactBagTakeWrong)

/-- 'laws.FnExactBagWall': WHATEVER THE INPUT: true; the input reads as it did. -/
def fnExactBagWallSpec : ChangeSpec := { name := "fnExactBagWall", fn := fun _ => fun
  | [d1, d2, d3] => { results := [.lit (.bool true)], args := [d1, d2, d3] }
  | _ => none }
def fnExactBagWallRow : OpenClaim := { program := "ythnpbfljoghbmaa", sum := "6d51baeb2949c20abb7155d7ac4e7a4b60fa3b2bd48f616e3a598ed9c564bed0", func := "loop.example/s01586/laws.FnExactBagWall", spec := "fnExactBagWall", unfollowed := true, recurses := true, plainKeys := false, apart := false }
def FnExactBagWallSaid : Prop := fnExactBagWallRow.holds Try.pinned (OpenSpec.ofChange fnExactBagWallSpec)

/-- ITS FALSE NEIGHBOUR: 'it returns false'. Refute it at one input. -/
def fnExactBagWallWrong : ChangeSpec := { name := "fnExactBagWall", fn := fun _ => fun
  | [d1, d2, d3] => { results := [.lit (.bool false)], args := [d1, d2, d3] }
  | _ => none }
def FnExactBagWallWrongFalsely : Prop := fnExactBagWallRow.holds Try.pinned (OpenSpec.ofChange fnExactBagWallWrong)

/-- 'laws.FnBag': WHATEVER THE INPUT: true; the input reads as it did. -/
def fnBagSpec : ChangeSpec := { name := "fnBag", fn := fun _ => fun
  | [d] => { results := [.lit (.bool true)], args := [d] }
  | _ => none }
def fnBagRow : OpenClaim := { program := "ythnpbfljoghbmaa", sum := "6d51baeb2949c20abb7155d7ac4e7a4b60fa3b2bd48f616e3a598ed9c564bed0", func := "loop.example/s01586/laws.FnBag", spec := "fnBag", unfollowed := true, recurses := true, plainKeys := false, apart := false }
def FnBagSaid : Prop := fnBagRow.holds Try.pinned (OpenSpec.ofChange fnBagSpec)

/-- ITS FALSE NEIGHBOUR: 'it returns false'. Refute it at one input. -/
def fnBagWrong : ChangeSpec := { name := "fnBag", fn := fun _ => fun
  | [d] => { results := [.lit (.bool false)], args := [d] }
  | _ => none }
def FnBagWrongFalsely : Prop := fnBagRow.holds Try.pinned (OpenSpec.ofChange fnBagWrong)

/-- 'laws.FnExactLinear': WHATEVER THE INPUT: true; the input reads as it did. -/
def fnExactLinearSpec : ChangeSpec := { name := "fnExactLinear", fn := fun _ => fun
  | [d1, d2] => { results := [.lit (.bool true)], args := [d1, d2] }
  | _ => none }
def fnExactLinearRow : OpenClaim := { program := "ythnpbfljoghbmaa", sum := "6d51baeb2949c20abb7155d7ac4e7a4b60fa3b2bd48f616e3a598ed9c564bed0", func := "loop.example/s01586/laws.FnExactLinear", spec := "fnExactLinear", unfollowed := true, recurses := true, plainKeys := false, apart := false }
def FnExactLinearSaid : Prop := fnExactLinearRow.holds Try.pinned (OpenSpec.ofChange fnExactLinearSpec)

/-- ITS FALSE NEIGHBOUR: 'it returns false'. Refute it at one input. -/
def fnExactLinearWrong : ChangeSpec := { name := "fnExactLinear", fn := fun _ => fun
  | [d1, d2] => { results := [.lit (.bool false)], args := [d1, d2] }
  | _ => none }
def FnExactLinearWrongFalsely : Prop := fnExactLinearRow.holds Try.pinned (OpenSpec.ofChange fnExactLinearWrong)

/-- 'laws.FnExactApplyLog': WHATEVER THE INPUT: true; the input reads as it did. -/
def fnExactApplyLogSpec : ChangeSpec := { name := "fnExactApplyLog", fn := fun _ => fun
  | [d1, d2] => { results := [.lit (.bool true)], args := [d1, d2] }
  | _ => none }
def fnExactApplyLogRow : OpenClaim := { program := "ythnpbfljoghbmaa", sum := "6d51baeb2949c20abb7155d7ac4e7a4b60fa3b2bd48f616e3a598ed9c564bed0", func := "loop.example/s01586/laws.FnExactApplyLog", spec := "fnExactApplyLog", unfollowed := true, recurses := true, plainKeys := false, apart := false }
def FnExactApplyLogSaid : Prop := fnExactApplyLogRow.holds Try.pinned (OpenSpec.ofChange fnExactApplyLogSpec)

/-- ITS FALSE NEIGHBOUR: 'it returns false'. Refute it at one input. -/
def fnExactApplyLogWrong : ChangeSpec := { name := "fnExactApplyLog", fn := fun _ => fun
  | [d1, d2] => { results := [.lit (.bool false)], args := [d1, d2] }
  | _ => none }
def FnExactApplyLogWrongFalsely : Prop := fnExactApplyLogRow.holds Try.pinned (OpenSpec.ofChange fnExactApplyLogWrong)

/-- 'laws.FnExactApplyCmd': WHATEVER THE INPUT: true; the input reads as it did. -/
def fnExactApplyCmdSpec : ChangeSpec := { name := "fnExactApplyCmd", fn := fun _ => fun
  | [d1, d2] => { results := [.lit (.bool true)], args := [d1, d2] }
  | _ => none }
def fnExactApplyCmdRow : OpenClaim := { program := "ythnpbfljoghbmaa", sum := "6d51baeb2949c20abb7155d7ac4e7a4b60fa3b2bd48f616e3a598ed9c564bed0", func := "loop.example/s01586/laws.FnExactApplyCmd", spec := "fnExactApplyCmd", unfollowed := true, recurses := true, plainKeys := false, apart := false }
def FnExactApplyCmdSaid : Prop := fnExactApplyCmdRow.holds Try.pinned (OpenSpec.ofChange fnExactApplyCmdSpec)

/-- ITS FALSE NEIGHBOUR: 'it returns false'. Refute it at one input. -/
def fnExactApplyCmdWrong : ChangeSpec := { name := "fnExactApplyCmd", fn := fun _ => fun
  | [d1, d2] => { results := [.lit (.bool false)], args := [d1, d2] }
  | _ => none }
def FnExactApplyCmdWrongFalsely : Prop := fnExactApplyCmdRow.holds Try.pinned (OpenSpec.ofChange fnExactApplyCmdWrong)

/- THE SECOND FORM. 'bulk': how many values and letters a reading holds, each counted each time it is reached (what is shared counts as often as it is met; a slice's spare places count too). A statement '..UptoSaid' is the law's where the arguments, and the package variables that the reading takes, are together of bulk at most 1048576: NARROWER than '..Said'. Prove '..Said' where nothing that the law and all that it calls make is longer than what came in: it says more and counts as full. Else prove '..UptoSaid'. A law counts once. -/
mutual
def uptoBulk {H : Type} : DataW H → Nat
  | .lit (.string bytes) => bytes.length + 1
  | .lit _ => 1
  | .nil => 1
  | .ptr d => uptoBulk d + 1
  | .slice elems spare => uptoBulkAll elems + uptoBulkAll spare + 1
  | .agg parts => uptoBulkAll parts + 1
  | .iface _ d => uptoBulk d + 1
  | .map entries => uptoBulkEntries entries + 1
  | .held _ => 1
def uptoBulkAll {H : Type} : List (DataW H) → Nat
  | [] => 0
  | d :: r => uptoBulk d + uptoBulkAll r
def uptoBulkEntries {H : Type} : List (Lit × DataW H) → Nat
  | [] => 0
  | x :: r => uptoBulkEntry x + uptoBulkEntries r
def uptoBulkEntry {H : Type} : Lit × DataW H → Nat
  | (.string bytes, d) => bytes.length + uptoBulk d + 1
  | (_, d) => uptoBulk d + 1
 end
def uptoSmall : (H : Type) → List (DataW H) → Bool := fun _ ds => decide (uptoBulkAll ds ≤ 1048576)
def OpenSpec.upto (s : _root_.Go.ChangeSpec) : _root_.Go.OpenSpec := { _root_.Go.OpenSpec.ofChange s with cond := some uptoSmall }

/-- 'laws.FnExactBagPut', WHERE WHAT IT READS IS OF BULK AT MOST 1048576: true; the input reads as it did. -/
def fnExactBagPutUptoRow : OpenClaim := { program := "ythnpbfljoghbmaa", sum := "6d51baeb2949c20abb7155d7ac4e7a4b60fa3b2bd48f616e3a598ed9c564bed0", func := "loop.example/s01586/laws.FnExactBagPut", spec := "fnExactBagPut", plainKeys := false, apart := false, narrowed := true }
def FnExactBagPutUptoSaid : Prop := fnExactBagPutUptoRow.holds Try.pinned (OpenSpec.upto fnExactBagPutSpec)

/-- 'laws.FnExactBagTake', WHERE WHAT IT READS IS OF BULK AT MOST 1048576: true; the input reads as it did. -/
def fnExactBagTakeUptoRow : OpenClaim := { program := "ythnpbfljoghbmaa", sum := "6d51baeb2949c20abb7155d7ac4e7a4b60fa3b2bd48f616e3a598ed9c564bed0", func := "loop.example/s01586/laws.FnExactBagTake", spec := "fnExactBagTake", plainKeys := false, apart := false, narrowed := true }
def FnExactBagTakeUptoSaid : Prop := fnExactBagTakeUptoRow.holds Try.pinned (OpenSpec.upto fnExactBagTakeSpec)

/-- 'laws.FnExactBagWall', WHERE WHAT IT READS IS OF BULK AT MOST 1048576: true; the input reads as it did. -/
def fnExactBagWallUptoRow : OpenClaim := { program := "ythnpbfljoghbmaa", sum := "6d51baeb2949c20abb7155d7ac4e7a4b60fa3b2bd48f616e3a598ed9c564bed0", func := "loop.example/s01586/laws.FnExactBagWall", spec := "fnExactBagWall", unfollowed := true, recurses := true, plainKeys := false, apart := false, narrowed := true }
def FnExactBagWallUptoSaid : Prop := fnExactBagWallUptoRow.holds Try.pinned (OpenSpec.upto fnExactBagWallSpec)

/-- 'laws.FnBag', WHERE WHAT IT READS IS OF BULK AT MOST 1048576: true; the input reads as it did. -/
def fnBagUptoRow : OpenClaim := { program := "ythnpbfljoghbmaa", sum := "6d51baeb2949c20abb7155d7ac4e7a4b60fa3b2bd48f616e3a598ed9c564bed0", func := "loop.example/s01586/laws.FnBag", spec := "fnBag", unfollowed := true, recurses := true, plainKeys := false, apart := false, narrowed := true }
def FnBagUptoSaid : Prop := fnBagUptoRow.holds Try.pinned (OpenSpec.upto fnBagSpec)

/-- 'laws.FnExactLinear', WHERE WHAT IT READS IS OF BULK AT MOST 1048576: true; the input reads as it did. -/
def fnExactLinearUptoRow : OpenClaim := { program := "ythnpbfljoghbmaa", sum := "6d51baeb2949c20abb7155d7ac4e7a4b60fa3b2bd48f616e3a598ed9c564bed0", func := "loop.example/s01586/laws.FnExactLinear", spec := "fnExactLinear", unfollowed := true, recurses := true, plainKeys := false, apart := false, narrowed := true }
def FnExactLinearUptoSaid : Prop := fnExactLinearUptoRow.holds Try.pinned (OpenSpec.upto fnExactLinearSpec)

/-- 'laws.FnExactApplyLog', WHERE WHAT IT READS IS OF BULK AT MOST 1048576: true; the input reads as it did. -/
def fnExactApplyLogUptoRow : OpenClaim := { program := "ythnpbfljoghbmaa", sum := "6d51baeb2949c20abb7155d7ac4e7a4b60fa3b2bd48f616e3a598ed9c564bed0", func := "loop.example/s01586/laws.FnExactApplyLog", spec := "fnExactApplyLog", unfollowed := true, recurses := true, plainKeys := false, apart := false, narrowed := true }
def FnExactApplyLogUptoSaid : Prop := fnExactApplyLogUptoRow.holds Try.pinned (OpenSpec.upto fnExactApplyLogSpec)

/-- 'laws.FnExactApplyCmd', WHERE WHAT IT READS IS OF BULK AT MOST 1048576: true; the input reads as it did. -/
def fnExactApplyCmdUptoRow : OpenClaim := { program := "ythnpbfljoghbmaa", sum := "6d51baeb2949c20abb7155d7ac4e7a4b60fa3b2bd48f616e3a598ed9c564bed0", func := "loop.example/s01586/laws.FnExactApplyCmd", spec := "fnExactApplyCmd", unfollowed := true, recurses := true, plainKeys := false, apart := false, narrowed := true }
def FnExactApplyCmdUptoSaid : Prop := fnExactApplyCmdUptoRow.holds Try.pinned (OpenSpec.upto fnExactApplyCmdSpec)

end Rows
end Go.Proofs.Ythnpbfljoghbmaa
