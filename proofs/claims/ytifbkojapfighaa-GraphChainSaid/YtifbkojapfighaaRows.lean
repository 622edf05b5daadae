/-
  No cell of these rows narrows 'for every input' (looked for: loops, veiled, ifaces, maps, wideKeys, modest, calm, conditions, laid).
  DERIVED. THE GIVEN ROWS OF THIS SEAT. 7 by the template 'for every input the law returns true; each argument reads behind the call as it read before'; 0 by the template 'total and deterministic' (their statements: YtifbkojapfighaaTotals.lean).
  GIVEN WITH THE SEED: the statements are not yours to turn. If you find one false, say at which input.
  Laid BY PROGRAM, IN A SANDBOX (cutbox-rows.mjs): the forced cells as the released guide's own fill.sh prints them over the translation e54a9ca8fbe1f4b1… (all of the seat's roots in one cut). By AI agents, Wed Nov 11 2026. No macro, syntax, notation, axiom, sorry.
-/
import Derived.Test.YtifbkojapfighaaChecked
import GoSem.Claim
import GoSem.ClaimJoined
import GoSem.ClaimMapViews
import Derived.JoinedTies
import Derived.KernelRfl
namespace Go.Proofs.Ytifbkojapfighaa
/- THE CELL 'sum', in the pinned program and in every row, IS THE sha256 OF THE DUMP (.gsa) THAT YtifbkojapfighaaProg.lean LOADS. Nothing in Lean hashes anything: it is a label: what it is worth is what the hold of that sum in a sandbox is worth. -/
noncomputable def Try.pinned : Pinned := { name := "ytifbkojapfighaa", sum := "e54a9ca8fbe1f4b1e682647daaf19d08bb6abb264770c17a6e7153e4ee7eafb7", checked := Try.checked }
namespace Rows
def none {H : Type} : Left H := { results := [], args := [] }

/-- 'bellowslaw13.GraphMore': WHATEVER THE INPUT: true; the input reads as it did. -/
def graphMoreSpec : ChangeSpec := { name := "graphMore", fn := fun _ => fun
  | [d1, d2, d3] => { results := [.lit (.bool true)], args := [d1, d2, d3] }
  | _ => none }
def graphMoreRow : OpenClaim := { program := "ytifbkojapfighaa", sum := "e54a9ca8fbe1f4b1e682647daaf19d08bb6abb264770c17a6e7153e4ee7eafb7", func := "bellows/bellowslaw13.GraphMore", spec := "graphMore", unfollowed := true, recurses := true, apart := false }
def GraphMoreSaid : Prop := graphMoreRow.holds Try.pinned (OpenSpec.ofChange graphMoreSpec)

/-- ITS FALSE NEIGHBOUR: 'it returns false'. Refute it at one input. -/
def graphMoreWrong : ChangeSpec := { name := "graphMore", fn := fun _ => fun
  | [d1, d2, d3] => { results := [.lit (.bool false)], args := [d1, d2, d3] }
  | _ => none }
def GraphMoreWrongFalsely : Prop := graphMoreRow.holds Try.pinned (OpenSpec.ofChange graphMoreWrong)

/-- 'bellowslaw13.GraphTwice': WHATEVER THE INPUT: true; the input reads as it did. -/
def graphTwiceSpec : ChangeSpec := { name := "graphTwice", fn := fun _ => fun
  | [d] => { results := [.lit (.bool true)], args := [d] }
  | _ => none }
def graphTwiceRow : OpenClaim := { program := "ytifbkojapfighaa", sum := "e54a9ca8fbe1f4b1e682647daaf19d08bb6abb264770c17a6e7153e4ee7eafb7", func := "bellows/bellowslaw13.GraphTwice", spec := "graphTwice", unfollowed := true, recurses := true, apart := false }
def GraphTwiceSaid : Prop := graphTwiceRow.holds Try.pinned (OpenSpec.ofChange graphTwiceSpec)

/-- ITS FALSE NEIGHBOUR: 'it returns false'. Refute it at one input. -/
def graphTwiceWrong : ChangeSpec := { name := "graphTwice", fn := fun _ => fun
  | [d] => { results := [.lit (.bool false)], args := [d] }
  | _ => none }
def GraphTwiceWrongFalsely : Prop := graphTwiceRow.holds Try.pinned (OpenSpec.ofChange graphTwiceWrong)

/-- 'bellowslaw13.GraphAbove': WHATEVER THE INPUT: true; the input reads as it did. -/
def graphAboveSpec : ChangeSpec := { name := "graphAbove", fn := fun _ => fun
  | [d1, d2] => { results := [.lit (.bool true)], args := [d1, d2] }
  | _ => none }
def graphAboveRow : OpenClaim := { program := "ytifbkojapfighaa", sum := "e54a9ca8fbe1f4b1e682647daaf19d08bb6abb264770c17a6e7153e4ee7eafb7", func := "bellows/bellowslaw13.GraphAbove", spec := "graphAbove", unfollowed := true, recurses := true, apart := false }
def GraphAboveSaid : Prop := graphAboveRow.holds Try.pinned (OpenSpec.ofChange graphAboveSpec)

/-- ITS FALSE NEIGHBOUR: 'it returns false'. Refute it at one input. -/
def graphAboveWrong : ChangeSpec := { name := "graphAbove", fn := fun _ => fun
  | [d1, d2] => { results := [.lit (.bool false)], args := [d1, d2] }
  | _ => none }
def GraphAboveWrongFalsely : Prop := graphAboveRow.holds Try.pinned (OpenSpec.ofChange graphAboveWrong)

/-- 'bellowslaw13.GraphOrders': WHATEVER THE INPUT: true; the input reads as it did. -/
def graphOrdersSpec : ChangeSpec := { name := "graphOrders", fn := fun _ => fun
  | [d] => { results := [.lit (.bool true)], args := [d] }
  | _ => none }
def graphOrdersRow : OpenClaim := { program := "ytifbkojapfighaa", sum := "e54a9ca8fbe1f4b1e682647daaf19d08bb6abb264770c17a6e7153e4ee7eafb7", func := "bellows/bellowslaw13.GraphOrders", spec := "graphOrders", unfollowed := true, recurses := true, apart := false }
def GraphOrdersSaid : Prop := graphOrdersRow.holds Try.pinned (OpenSpec.ofChange graphOrdersSpec)

/-- ITS FALSE NEIGHBOUR: 'it returns false'. Refute it at one input. -/
def graphOrdersWrong : ChangeSpec := { name := "graphOrders", fn := fun _ => fun
  | [d] => { results := [.lit (.bool false)], args := [d] }
  | _ => none }
def GraphOrdersWrongFalsely : Prop := graphOrdersRow.holds Try.pinned (OpenSpec.ofChange graphOrdersWrong)

/-- 'bellowslaw13.GraphChain': WHATEVER THE INPUT: true; the input reads as it did. -/
def graphChainSpec : ChangeSpec := { name := "graphChain", fn := fun _ => fun
  | [d1, d2, d3] => { results := [.lit (.bool true)], args := [d1, d2, d3] }
  | _ => none }
def graphChainRow : OpenClaim := { program := "ytifbkojapfighaa", sum := "e54a9ca8fbe1f4b1e682647daaf19d08bb6abb264770c17a6e7153e4ee7eafb7", func := "bellows/bellowslaw13.GraphChain", spec := "graphChain", unfollowed := true, recurses := true, apart := false }
def GraphChainSaid : Prop := graphChainRow.holds Try.pinned (OpenSpec.ofChange graphChainSpec)

/-- ITS FALSE NEIGHBOUR: 'it returns false'. Refute it at one input. -/
def graphChainWrong : ChangeSpec := { name := "graphChain", fn := fun _ => fun
  | [d1, d2, d3] => { results := [.lit (.bool false)], args := [d1, d2, d3] }
  | _ => none }
def GraphChainWrongFalsely : Prop := graphChainRow.holds Try.pinned (OpenSpec.ofChange graphChainWrong)

/-- 'bellowslaw13.GraphPlans': WHATEVER THE INPUT: true; the input reads as it did. -/
def graphPlansSpec : ChangeSpec := { name := "graphPlans", fn := fun _ => fun
  | [d1, d2] => { results := [.lit (.bool true)], args := [d1, d2] }
  | _ => none }
def graphPlansRow : OpenClaim := { program := "ytifbkojapfighaa", sum := "e54a9ca8fbe1f4b1e682647daaf19d08bb6abb264770c17a6e7153e4ee7eafb7", func := "bellows/bellowslaw13.GraphPlans", spec := "graphPlans", unfollowed := true, recurses := true, apart := false }
def GraphPlansSaid : Prop := graphPlansRow.holds Try.pinned (OpenSpec.ofChange graphPlansSpec)

/-- ITS FALSE NEIGHBOUR: 'it returns false'. Refute it at one input. -/
def graphPlansWrong : ChangeSpec := { name := "graphPlans", fn := fun _ => fun
  | [d1, d2] => { results := [.lit (.bool false)], args := [d1, d2] }
  | _ => none }
def GraphPlansWrongFalsely : Prop := graphPlansRow.holds Try.pinned (OpenSpec.ofChange graphPlansWrong)

/-- 'bellowslaw13.GraphEdges': WHATEVER THE INPUT: true; the input reads as it did. -/
def graphEdgesSpec : ChangeSpec := { name := "graphEdges", fn := fun _ => fun
  | [d1, d2] => { results := [.lit (.bool true)], args := [d1, d2] }
  | _ => none }
def graphEdgesRow : OpenClaim := { program := "ytifbkojapfighaa", sum := "e54a9ca8fbe1f4b1e682647daaf19d08bb6abb264770c17a6e7153e4ee7eafb7", func := "bellows/bellowslaw13.GraphEdges", spec := "graphEdges", unfollowed := true, recurses := true, apart := false }
def GraphEdgesSaid : Prop := graphEdgesRow.holds Try.pinned (OpenSpec.ofChange graphEdgesSpec)

/-- ITS FALSE NEIGHBOUR: 'it returns false'. Refute it at one input. -/
def graphEdgesWrong : ChangeSpec := { name := "graphEdges", fn := fun _ => fun
  | [d1, d2] => { results := [.lit (.bool false)], args := [d1, d2] }
  | _ => none }
def GraphEdgesWrongFalsely : Prop := graphEdgesRow.holds Try.pinned (OpenSpec.ofChange graphEdgesWrong)

/- THE SECOND FORM. 'bulk': how many values and letters a reading holds, each counted each time it is reached (what is shared counts as often as it is met; a slice's spare places count too). A statement '..UptoSaid' is the law's where the arguments, and the package variables that the reading takes, are together of bulk at most 1048576: NARROWER than '..Said'. Prove '..Said' where nothing that the law and all that it calls make is longer than what came in: it says more and counts as full. Else prove '..UptoSaid'. A law counts once. -/
mutual
def uptoBulk {H : Type} : DataW H → Nat
  | .lit (.string bytes) => bytes.length + 1
  | .lit _ => 1
  | .nil => 1
  | .ptr d => uptoBulk d + 1
  | .slice elems spare => uptoBulkAll elems + uptoBulkAll spare + 1
  | .agg parts => uptoBulkAll parts + 1
  | .iface _ d => uptoBulk d + 1
  | .map entries => uptoBulkEntries entries + 1
  | .held _ => 1
def uptoBulkAll {H : Type} : List (DataW H) → Nat
  | [] => 0
  | d :: r => uptoBulk d + uptoBulkAll r
def uptoBulkEntries {H : Type} : List (Lit × DataW H) → Nat
  | [] => 0
  | x :: r => uptoBulkEntry x + uptoBulkEntries r
def uptoBulkEntry {H : Type} : Lit × DataW H → Nat
  | (.string bytes, d) => bytes.length + uptoBulk d + 1
  | (_, d) => uptoBulk d + 1
 end
def uptoSmall : (H : Type) → List (DataW H) → Bool := fun _ ds => decide (uptoBulkAll ds ≤ 1048576)
def OpenSpec.upto (s : _root_.Go.ChangeSpec) : _root_.Go.OpenSpec := { _root_.Go.OpenSpec.ofChange s with cond := some uptoSmall }

/-- 'bellowslaw13.GraphMore', WHERE WHAT IT READS IS OF BULK AT MOST 1048576: true; the input reads as it did. -/
def graphMoreUptoRow : OpenClaim := { program := "ytifbkojapfighaa", sum := "e54a9ca8fbe1f4b1e682647daaf19d08bb6abb264770c17a6e7153e4ee7eafb7", func := "bellows/bellowslaw13.GraphMore", spec := "graphMore", unfollowed := true, recurses := true, apart := false, narrowed := true }
def GraphMoreUptoSaid : Prop := graphMoreUptoRow.holds Try.pinned (OpenSpec.upto graphMoreSpec)

/-- 'bellowslaw13.GraphTwice', WHERE WHAT IT READS IS OF BULK AT MOST 1048576: true; the input reads as it did. -/
def graphTwiceUptoRow : OpenClaim := { program := "ytifbkojapfighaa", sum := "e54a9ca8fbe1f4b1e682647daaf19d08bb6abb264770c17a6e7153e4ee7eafb7", func := "bellows/bellowslaw13.GraphTwice", spec := "graphTwice", unfollowed := true, recurses := true, apart := false, narrowed := true }
def GraphTwiceUptoSaid : Prop := graphTwiceUptoRow.holds Try.pinned (OpenSpec.upto graphTwiceSpec)

/-- 'bellowslaw13.GraphAbove', WHERE WHAT IT READS IS OF BULK AT MOST 1048576: true; the input reads as it did. -/
def graphAboveUptoRow : OpenClaim := { program := "ytifbkojapfighaa", sum := "e54a9ca8fbe1f4b1e682647daaf19d08bb6abb264770c17a6e7153e4ee7eafb7", func := "bellows/bellowslaw13.GraphAbove", spec := "graphAbove", unfollowed := true, recurses := true, apart := false, narrowed := true }
def GraphAboveUptoSaid : Prop := graphAboveUptoRow.holds Try.pinned (OpenSpec.upto graphAboveSpec)

/-- 'bellowslaw13.GraphOrders', WHERE WHAT IT READS IS OF BULK AT MOST 1048576: true; the input reads as it did. -/
def graphOrdersUptoRow : OpenClaim := { program := "ytifbkojapfighaa", sum := "e54a9ca8fbe1f4b1e682647daaf19d08bb6abb264770c17a6e7153e4ee7eafb7", func := "bellows/bellowslaw13.GraphOrders", spec := "graphOrders", unfollowed := true, recurses := true, apart := false, narrowed := true }
def GraphOrdersUptoSaid : Prop := graphOrdersUptoRow.holds Try.pinned (OpenSpec.upto graphOrdersSpec)

/-- 'bellowslaw13.GraphChain', WHERE WHAT IT READS IS OF BULK AT MOST 1048576: true; the input reads as it did. -/
def graphChainUptoRow : OpenClaim := { program := "ytifbkojapfighaa", sum := "e54a9ca8fbe1f4b1e682647daaf19d08bb6abb264770c17a6e7153e4ee7eafb7", func := "bellows/bellowslaw13.GraphChain", spec := "graphChain", unfollowed := true, recurses := true, apart := false, narrowed := true }
def GraphChainUptoSaid : Prop := graphChainUptoRow.holds Try.pinned (OpenSpec.upto graphChainSpec)

/-- 'bellowslaw13.GraphPlans', WHERE WHAT IT READS IS OF BULK AT MOST 1048576: true; the input reads as it did. -/
def graphPlansUptoRow : OpenClaim := { program := "ytifbkojapfighaa", sum := "e54a9ca8fbe1f4b1e682647daaf19d08bb6abb264770c17a6e7153e4ee7eafb7", func := "bellows/bellowslaw13.GraphPlans", spec := "graphPlans", unfollowed := true, recurses := true, apart := false, narrowed := true }
def GraphPlansUptoSaid : Prop := graphPlansUptoRow.holds Try.pinned (OpenSpec.upto graphPlansSpec)

/-- 'bellowslaw13.GraphEdges', WHERE WHAT IT READS IS OF BULK AT MOST 1048576: true; the input reads as it did. -/
def graphEdgesUptoRow : OpenClaim := { program := "ytifbkojapfighaa", sum := "e54a9ca8fbe1f4b1e682647daaf19d08bb6abb264770c17a6e7153e4ee7eafb7", func := "bellows/bellowslaw13.GraphEdges", spec := "graphEdges", unfollowed := true, recurses := true, apart := false, narrowed := true }
def GraphEdgesUptoSaid : Prop := graphEdgesUptoRow.holds Try.pinned (OpenSpec.upto graphEdgesSpec)

end Rows
end Go.Proofs.Ytifbkojapfighaa
