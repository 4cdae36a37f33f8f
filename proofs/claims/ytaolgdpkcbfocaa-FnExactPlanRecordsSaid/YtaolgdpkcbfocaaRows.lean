/-
  No cell of these rows narrows 'for every input' (looked for: loops, veiled, ifaces, maps, wideKeys, modest, calm, conditions, laid).
  DERIVED. THE GIVEN ROWS OF THIS SEAT. 3 by the template 'for every input the law returns true; each argument reads behind the call as it read before'; 0 by the template 'total and deterministic' (their statements: YtaolgdpkcbfocaaTotals.lean).
  GIVEN WITH THE SEED: the statements are not yours to turn. If you find one false, say at which input.
  Laid BY PROGRAM, IN A SANDBOX (cutbox-rows.mjs): the forced cells as the released guide's own fill.sh prints them over the translation 165dd5df0d8bc132… (all of the seat's roots in one cut). By AI agents, Wed Nov 11 2026. No macro, syntax, notation, axiom, sorry.
-/
import Derived.Test.YtaolgdpkcbfocaaChecked
import GoSem.Claim
import GoSem.ClaimJoined
import GoSem.ClaimMapViews
import Derived.JoinedTies
import Derived.KernelRfl
namespace Go.Proofs.Ytaolgdpkcbfocaa
/- THE CELL 'sum', in the pinned program and in every row, IS THE sha256 OF THE DUMP (.gsa) THAT YtaolgdpkcbfocaaProg.lean LOADS. Nothing in Lean hashes anything: it is a label: what it is worth is what the hold of that sum in a sandbox is worth. -/
noncomputable def Try.pinned : Pinned := { name := "ytaolgdpkcbfocaa", sum := "165dd5df0d8bc1320d14eaf09e8973521dec4de0c60a65d3992b283179198520", checked := Try.checked }
namespace Rows
def none {H : Type} : Left H := { results := [], args := [] }

/-- 'laws.FnExactStepClient': WHATEVER THE INPUT: true; the input reads as it did. -/
def fnExactStepClientSpec : ChangeSpec := { name := "fnExactStepClient", fn := fun _ => fun
  | [d1, d2] => { results := [.lit (.bool true)], args := [d1, d2] }
  | _ => none }
def fnExactStepClientRow : OpenClaim := { program := "ytaolgdpkcbfocaa", sum := "165dd5df0d8bc1320d14eaf09e8973521dec4de0c60a65d3992b283179198520", func := "loop.example/s01586/laws.FnExactStepClient", spec := "fnExactStepClient", apart := false }
def FnExactStepClientSaid : Prop := fnExactStepClientRow.holds Try.pinned (OpenSpec.ofChange fnExactStepClientSpec)

/-- ITS FALSE NEIGHBOUR: 'it returns false'. Refute it at one input. -/
def fnExactStepClientWrong : ChangeSpec := { name := "fnExactStepClient", fn := fun _ => fun
  | [d1, d2] => { results := [.lit (.bool false)], args := [d1, d2] }
  | _ => none }
def FnExactStepClientWrongFalsely : Prop := fnExactStepClientRow.holds Try.pinned (OpenSpec.ofChange fnExactStepClientWrong)

/-- 'laws.FnExactPlanRecords': WHATEVER THE INPUT: true; the input reads as it did. -/
def fnExactPlanRecordsSpec : ChangeSpec := { name := "fnExactPlanRecords", fn := fun _ => fun
  | [d1, d2] => { results := [.lit (.bool true)], args := [d1, d2] }
  | _ => none }
def fnExactPlanRecordsRow : OpenClaim := { program := "ytaolgdpkcbfocaa", sum := "165dd5df0d8bc1320d14eaf09e8973521dec4de0c60a65d3992b283179198520", func := "loop.example/s01586/laws.FnExactPlanRecords", spec := "fnExactPlanRecords", apart := false }
def FnExactPlanRecordsSaid : Prop := fnExactPlanRecordsRow.holds Try.pinned (OpenSpec.ofChange fnExactPlanRecordsSpec)

/-- ITS FALSE NEIGHBOUR: 'it returns false'. Refute it at one input. -/
def fnExactPlanRecordsWrong : ChangeSpec := { name := "fnExactPlanRecords", fn := fun _ => fun
  | [d1, d2] => { results := [.lit (.bool false)], args := [d1, d2] }
  | _ => none }
def FnExactPlanRecordsWrongFalsely : Prop := fnExactPlanRecordsRow.holds Try.pinned (OpenSpec.ofChange fnExactPlanRecordsWrong)

/-- 'laws.FnExactNewNode': WHATEVER THE INPUT: true; the input reads as it did. -/
def fnExactNewNodeSpec : ChangeSpec := { name := "fnExactNewNode", fn := fun _ => fun
  | [d1, d2, d3, d4, d5, d6] => { results := [.lit (.bool true)], args := [d1, d2, d3, d4, d5, d6] }
  | _ => none }
def fnExactNewNodeRow : OpenClaim := { program := "ytaolgdpkcbfocaa", sum := "165dd5df0d8bc1320d14eaf09e8973521dec4de0c60a65d3992b283179198520", func := "loop.example/s01586/laws.FnExactNewNode", spec := "fnExactNewNode", apart := false }
def FnExactNewNodeSaid : Prop := fnExactNewNodeRow.holds Try.pinned (OpenSpec.ofChange fnExactNewNodeSpec)

/-- ITS FALSE NEIGHBOUR: 'it returns false'. Refute it at one input. -/
def fnExactNewNodeWrong : ChangeSpec := { name := "fnExactNewNode", fn := fun _ => fun
  | [d1, d2, d3, d4, d5, d6] => { results := [.lit (.bool false)], args := [d1, d2, d3, d4, d5, d6] }
  | _ => none }
def FnExactNewNodeWrongFalsely : Prop := fnExactNewNodeRow.holds Try.pinned (OpenSpec.ofChange fnExactNewNodeWrong)

/- THE SECOND FORM. 'bulk': how many values and letters a reading holds, each counted each time it is reached (what is shared counts as often as it is met; a slice's spare places count too). A statement '..UptoSaid' is the law's where the arguments, and the package variables that the reading takes, are together of bulk at most 1048576: NARROWER than '..Said'. Prove '..Said' where nothing that the law and all that it calls make is longer than what came in: it says more and counts as full. Else prove '..UptoSaid'. A law counts once. -/
mutual
def uptoBulk {H : Type} : DataW H → Nat
  | .lit (.string bytes) => bytes.length + 1
  | .lit _ => 1
  | .nil => 1
  | .ptr d => uptoBulk d + 1
  | .slice elems spare => uptoBulkAll elems + uptoBulkAll spare + 1
  | .agg parts => uptoBulkAll parts + 1
  | .iface _ d => uptoBulk d + 1
  | .map entries => uptoBulkEntries entries + 1
  | .held _ => 1
def uptoBulkAll {H : Type} : List (DataW H) → Nat
  | [] => 0
  | d :: r => uptoBulk d + uptoBulkAll r
def uptoBulkEntries {H : Type} : List (Lit × DataW H) → Nat
  | [] => 0
  | x :: r => uptoBulkEntry x + uptoBulkEntries r
def uptoBulkEntry {H : Type} : Lit × DataW H → Nat
  | (.string bytes, d) => bytes.length + uptoBulk d + 1
  | (_, d) => uptoBulk d + 1
 end
def uptoSmall : (H : Type) → List (DataW H) → Bool := fun _ ds => decide (uptoBulkAll ds ≤ 1048576)
def OpenSpec.upto (s : _root_.Go.ChangeSpec) : _root_.Go.OpenSpec := { _root_.Go.OpenSpec.ofChange s with cond := some uptoSmall }

/-- 'laws.FnExactStepClient', WHERE WHAT IT READS IS OF BULK AT MOST 1048576: true; the input reads as it did. -/
def fnExactStepClientUptoRow : OpenClaim := { program := "ytaolgdpkcbfocaa", sum := "165dd5df0d8bc1320d14eaf09e8973521dec4de0c60a65d3992b283179198520", func := "loop.example/s01586/laws.FnExactStepClient", spec := "fnExactStepClient", apart := false, narrowed := true }
def FnExactStepClientUptoSaid : Prop := fnExactStepClientUptoRow.holds Try.pinned (OpenSpec.upto fnExactStepClientSpec)

/-- 'laws.FnExactPlanRecords', WHERE WHAT IT READS IS OF BULK AT MOST 1048576: true; the input reads as it did. -/
def fnExactPlanRecordsUptoRow : OpenClaim := { program := "ytaolgdpkcbfocaa", sum := "165dd5df0d8bc1320d14eaf09e8973521dec4de0c60a65d3992b283179198520", func := "loop.example/s01586/laws.FnExactPlanRecords", spec := "fnExactPlanRecords", apart := false, narrowed := true }
def FnExactPlanRecordsUptoSaid : Prop := fnExactPlanRecordsUptoRow.holds Try.pinned (OpenSpec.upto fnExactPlanRecordsSpec)

/-- 'laws.FnExactNewNode', WHERE WHAT IT READS IS OF BULK AT MOST 1048576: true; the input reads as it did. -/
def fnExactNewNodeUptoRow : OpenClaim := { program := "ytaolgdpkcbfocaa", sum := "165dd5df0d8bc1320d14eaf09e8973521dec4de0c60a65d3992b283179198520", func := "loop.example/s01586/laws.FnExactNewNode", spec := "fnExactNewNode", apart := false, narrowed := true }
def FnExactNewNodeUptoSaid : Prop := fnExactNewNodeUptoRow.holds Try.pinned (OpenSpec.upto fnExactNewNodeSpec)

end Rows
end Go.Proofs.Ytaolgdpkcbfocaa
