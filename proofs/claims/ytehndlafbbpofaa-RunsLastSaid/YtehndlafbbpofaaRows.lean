/-
  No cell of these rows narrows 'for every input' (looked for: loops, veiled, ifaces, maps, wideKeys, modest, calm, conditions, laid).
  DERIVED. THE GIVEN ROWS OF THIS SEAT. 10 by the template 'for every input the law returns true; each argument reads behind the call as it read before'; 0 by the template 'total and deterministic' (their statements: YtehndlafbbpofaaTotals.lean).
  GIVEN WITH THE SEED: the statements are not yours to turn. If you find one false, say at which input.
  Laid BY PROGRAM, IN A SANDBOX (cutbox-rows.mjs): the forced cells as the released guide's own fill.sh prints them over the translation a0cef2ea1d62779c… (all of the seat's roots in one cut). By AI agents, Wed Nov 11 2026. No macro, syntax, notation, axiom, sorry.
-/
import Derived.Test.YtehndlafbbpofaaChecked
import GoSem.Claim
import GoSem.ClaimJoined
import GoSem.ClaimMapViews
import Derived.JoinedTies
import Derived.KernelRfl
namespace Go.Proofs.Ytehndlafbbpofaa
/- THE CELL 'sum', in the pinned program and in every row, IS THE sha256 OF THE DUMP (.gsa) THAT YtehndlafbbpofaaProg.lean LOADS. Nothing in Lean hashes anything: it is a label: what it is worth is what the hold of that sum in a sandbox is worth. -/
noncomputable def Try.pinned : Pinned := { name := "ytehndlafbbpofaa", sum := "a0cef2ea1d62779c4d76cacae2a9e4a0f949fe8c10a1ba0b1710d12fd8603a1e", checked := Try.checked }
namespace Rows
def none {H : Type} : Left H := { results := [], args := [] }

/-- 'bellowslaw06.RunsWrites': WHATEVER THE INPUT: true; the input reads as it did. -/
def runsWritesSpec : ChangeSpec := { name := "runsWrites", fn := fun _ => fun
  | [d] => { results := [.lit (.bool true)], args := [d] }
  | _ => none }
def runsWritesRow : OpenClaim := { program := "ytehndlafbbpofaa", sum := "a0cef2ea1d62779c4d76cacae2a9e4a0f949fe8c10a1ba0b1710d12fd8603a1e", func := "bellows/bellowslaw06.RunsWrites", spec := "runsWrites", unfollowed := true, recurses := true, apart := false }
def RunsWritesSaid : Prop := runsWritesRow.holds Try.pinned (OpenSpec.ofChange runsWritesSpec)

/-- ITS FALSE NEIGHBOUR: 'it returns false'. Refute it at one input. -/
def runsWritesWrong : ChangeSpec := { name := "runsWrites", fn := fun _ => fun
  | [d] => { results := [.lit (.bool false)], args := [d] }
  | _ => none }
def RunsWritesWrongFalsely : Prop := runsWritesRow.holds Try.pinned (OpenSpec.ofChange runsWritesWrong)

/-- 'bellowslaw06.RunsReads': WHATEVER THE INPUT: true; the input reads as it did. -/
def runsReadsSpec : ChangeSpec := { name := "runsReads", fn := fun _ => fun
  | [d] => { results := [.lit (.bool true)], args := [d] }
  | _ => none }
def runsReadsRow : OpenClaim := { program := "ytehndlafbbpofaa", sum := "a0cef2ea1d62779c4d76cacae2a9e4a0f949fe8c10a1ba0b1710d12fd8603a1e", func := "bellows/bellowslaw06.RunsReads", spec := "runsReads", unfollowed := true, recurses := true, apart := false }
def RunsReadsSaid : Prop := runsReadsRow.holds Try.pinned (OpenSpec.ofChange runsReadsSpec)

/-- ITS FALSE NEIGHBOUR: 'it returns false'. Refute it at one input. -/
def runsReadsWrong : ChangeSpec := { name := "runsReads", fn := fun _ => fun
  | [d] => { results := [.lit (.bool false)], args := [d] }
  | _ => none }
def RunsReadsWrongFalsely : Prop := runsReadsRow.holds Try.pinned (OpenSpec.ofChange runsReadsWrong)

/-- 'bellowslaw06.RunsBack': WHATEVER THE INPUT: true; the input reads as it did. -/
def runsBackSpec : ChangeSpec := { name := "runsBack", fn := fun _ => fun
  | [d1, d2] => { results := [.lit (.bool true)], args := [d1, d2] }
  | _ => none }
def runsBackRow : OpenClaim := { program := "ytehndlafbbpofaa", sum := "a0cef2ea1d62779c4d76cacae2a9e4a0f949fe8c10a1ba0b1710d12fd8603a1e", func := "bellows/bellowslaw06.RunsBack", spec := "runsBack", unfollowed := true, recurses := true, apart := false }
def RunsBackSaid : Prop := runsBackRow.holds Try.pinned (OpenSpec.ofChange runsBackSpec)

/-- ITS FALSE NEIGHBOUR: 'it returns false'. Refute it at one input. -/
def runsBackWrong : ChangeSpec := { name := "runsBack", fn := fun _ => fun
  | [d1, d2] => { results := [.lit (.bool false)], args := [d1, d2] }
  | _ => none }
def RunsBackWrongFalsely : Prop := runsBackRow.holds Try.pinned (OpenSpec.ofChange runsBackWrong)

/-- 'bellowslaw06.RunsTurned': WHATEVER THE INPUT: true; the input reads as it did. -/
def runsTurnedSpec : ChangeSpec := { name := "runsTurned", fn := fun _ => fun
  | [d] => { results := [.lit (.bool true)], args := [d] }
  | _ => none }
def runsTurnedRow : OpenClaim := { program := "ytehndlafbbpofaa", sum := "a0cef2ea1d62779c4d76cacae2a9e4a0f949fe8c10a1ba0b1710d12fd8603a1e", func := "bellows/bellowslaw06.RunsTurned", spec := "runsTurned", unfollowed := true, recurses := true, apart := false }
def RunsTurnedSaid : Prop := runsTurnedRow.holds Try.pinned (OpenSpec.ofChange runsTurnedSpec)

/-- ITS FALSE NEIGHBOUR: 'it returns false'. Refute it at one input. -/
def runsTurnedWrong : ChangeSpec := { name := "runsTurned", fn := fun _ => fun
  | [d] => { results := [.lit (.bool false)], args := [d] }
  | _ => none }
def RunsTurnedWrongFalsely : Prop := runsTurnedRow.holds Try.pinned (OpenSpec.ofChange runsTurnedWrong)

/-- 'bellowslaw06.RunsFolds': WHATEVER THE INPUT: true; the input reads as it did. -/
def runsFoldsSpec : ChangeSpec := { name := "runsFolds", fn := fun _ => fun
  | [d1, d2, d3] => { results := [.lit (.bool true)], args := [d1, d2, d3] }
  | _ => none }
def runsFoldsRow : OpenClaim := { program := "ytehndlafbbpofaa", sum := "a0cef2ea1d62779c4d76cacae2a9e4a0f949fe8c10a1ba0b1710d12fd8603a1e", func := "bellows/bellowslaw06.RunsFolds", spec := "runsFolds", unfollowed := true, recurses := true, apart := false }
def RunsFoldsSaid : Prop := runsFoldsRow.holds Try.pinned (OpenSpec.ofChange runsFoldsSpec)

/-- ITS FALSE NEIGHBOUR: 'it returns false'. Refute it at one input. -/
def runsFoldsWrong : ChangeSpec := { name := "runsFolds", fn := fun _ => fun
  | [d1, d2, d3] => { results := [.lit (.bool false)], args := [d1, d2, d3] }
  | _ => none }
def RunsFoldsWrongFalsely : Prop := runsFoldsRow.holds Try.pinned (OpenSpec.ofChange runsFoldsWrong)

/-- 'bellowslaw06.RunsParts': WHATEVER THE INPUT: true; the input reads as it did. -/
def runsPartsSpec : ChangeSpec := { name := "runsParts", fn := fun _ => fun
  | [d1, d2] => { results := [.lit (.bool true)], args := [d1, d2] }
  | _ => none }
def runsPartsRow : OpenClaim := { program := "ytehndlafbbpofaa", sum := "a0cef2ea1d62779c4d76cacae2a9e4a0f949fe8c10a1ba0b1710d12fd8603a1e", func := "bellows/bellowslaw06.RunsParts", spec := "runsParts", unfollowed := true, recurses := true, apart := false }
def RunsPartsSaid : Prop := runsPartsRow.holds Try.pinned (OpenSpec.ofChange runsPartsSpec)

/-- ITS FALSE NEIGHBOUR: 'it returns false'. Refute it at one input. -/
def runsPartsWrong : ChangeSpec := { name := "runsParts", fn := fun _ => fun
  | [d1, d2] => { results := [.lit (.bool false)], args := [d1, d2] }
  | _ => none }
def RunsPartsWrongFalsely : Prop := runsPartsRow.holds Try.pinned (OpenSpec.ofChange runsPartsWrong)

/-- 'bellowslaw06.RunsLast': WHATEVER THE INPUT: true; the input reads as it did. -/
def runsLastSpec : ChangeSpec := { name := "runsLast", fn := fun _ => fun
  | [d1, d2] => { results := [.lit (.bool true)], args := [d1, d2] }
  | _ => none }
def runsLastRow : OpenClaim := { program := "ytehndlafbbpofaa", sum := "a0cef2ea1d62779c4d76cacae2a9e4a0f949fe8c10a1ba0b1710d12fd8603a1e", func := "bellows/bellowslaw06.RunsLast", spec := "runsLast", unfollowed := true, recurses := true, apart := false }
def RunsLastSaid : Prop := runsLastRow.holds Try.pinned (OpenSpec.ofChange runsLastSpec)

/-- ITS FALSE NEIGHBOUR: 'it returns false'. Refute it at one input. -/
def runsLastWrong : ChangeSpec := { name := "runsLast", fn := fun _ => fun
  | [d1, d2] => { results := [.lit (.bool false)], args := [d1, d2] }
  | _ => none }
def RunsLastWrongFalsely : Prop := runsLastRow.holds Try.pinned (OpenSpec.ofChange runsLastWrong)

/-- 'bellowslaw05.ReclogScans': WHATEVER THE INPUT: true; the input reads as it did. -/
def reclogScansSpec : ChangeSpec := { name := "reclogScans", fn := fun _ => fun
  | [d1, d2, d3] => { results := [.lit (.bool true)], args := [d1, d2, d3] }
  | _ => none }
def reclogScansRow : OpenClaim := { program := "ytehndlafbbpofaa", sum := "a0cef2ea1d62779c4d76cacae2a9e4a0f949fe8c10a1ba0b1710d12fd8603a1e", func := "bellows/bellowslaw05.ReclogScans", spec := "reclogScans", unfollowed := true, recurses := true, apart := false }
def ReclogScansSaid : Prop := reclogScansRow.holds Try.pinned (OpenSpec.ofChange reclogScansSpec)

/-- ITS FALSE NEIGHBOUR: 'it returns false'. Refute it at one input. -/
def reclogScansWrong : ChangeSpec := { name := "reclogScans", fn := fun _ => fun
  | [d1, d2, d3] => { results := [.lit (.bool false)], args := [d1, d2, d3] }
  | _ => none }
def ReclogScansWrongFalsely : Prop := reclogScansRow.holds Try.pinned (OpenSpec.ofChange reclogScansWrong)

/-- 'bellowslaw05.ReclogCuts': WHATEVER THE INPUT: true; the input reads as it did. -/
def reclogCutsSpec : ChangeSpec := { name := "reclogCuts", fn := fun _ => fun
  | [d1, d2, d3] => { results := [.lit (.bool true)], args := [d1, d2, d3] }
  | _ => none }
def reclogCutsRow : OpenClaim := { program := "ytehndlafbbpofaa", sum := "a0cef2ea1d62779c4d76cacae2a9e4a0f949fe8c10a1ba0b1710d12fd8603a1e", func := "bellows/bellowslaw05.ReclogCuts", spec := "reclogCuts", unfollowed := true, recurses := true, apart := false }
def ReclogCutsSaid : Prop := reclogCutsRow.holds Try.pinned (OpenSpec.ofChange reclogCutsSpec)

/-- ITS FALSE NEIGHBOUR: 'it returns false'. Refute it at one input. -/
def reclogCutsWrong : ChangeSpec := { name := "reclogCuts", fn := fun _ => fun
  | [d1, d2, d3] => { results := [.lit (.bool false)], args := [d1, d2, d3] }
  | _ => none }
def ReclogCutsWrongFalsely : Prop := reclogCutsRow.holds Try.pinned (OpenSpec.ofChange reclogCutsWrong)

/-- 'bellowslaw05.ReclogTurned': WHATEVER THE INPUT: true; the input reads as it did. -/
def reclogTurnedSpec : ChangeSpec := { name := "reclogTurned", fn := fun _ => fun
  | [d] => { results := [.lit (.bool true)], args := [d] }
  | _ => none }
def reclogTurnedRow : OpenClaim := { program := "ytehndlafbbpofaa", sum := "a0cef2ea1d62779c4d76cacae2a9e4a0f949fe8c10a1ba0b1710d12fd8603a1e", func := "bellows/bellowslaw05.ReclogTurned", spec := "reclogTurned", unfollowed := true, recurses := true, apart := false }
def ReclogTurnedSaid : Prop := reclogTurnedRow.holds Try.pinned (OpenSpec.ofChange reclogTurnedSpec)

/-- ITS FALSE NEIGHBOUR: 'it returns false'. Refute it at one input. -/
def reclogTurnedWrong : ChangeSpec := { name := "reclogTurned", fn := fun _ => fun
  | [d] => { results := [.lit (.bool false)], args := [d] }
  | _ => none }
def ReclogTurnedWrongFalsely : Prop := reclogTurnedRow.holds Try.pinned (OpenSpec.ofChange reclogTurnedWrong)

/- THE SECOND FORM. 'bulk': how many values and letters a reading holds, each counted each time it is reached (what is shared counts as often as it is met; a slice's spare places count too). A statement '..UptoSaid' is the law's where the arguments, and the package variables that the reading takes, are together of bulk at most 1048576: NARROWER than '..Said'. Prove '..Said' where nothing that the law and all that it calls make is longer than what came in: it says more and counts as full. Else prove '..UptoSaid'. A law counts once. -/
mutual
def uptoBulk {H : Type} : DataW H → Nat
  | .lit (.string bytes) => bytes.length + 1
  | .lit _ => 1
  | .nil => 1
  | .ptr d => uptoBulk d + 1
  | .slice elems spare => uptoBulkAll elems + uptoBulkAll spare + 1
  | .agg parts => uptoBulkAll parts + 1
  | .iface _ d => uptoBulk d + 1
  | .map entries => uptoBulkEntries entries + 1
  | .held _ => 1
def uptoBulkAll {H : Type} : List (DataW H) → Nat
  | [] => 0
  | d :: r => uptoBulk d + uptoBulkAll r
def uptoBulkEntries {H : Type} : List (Lit × DataW H) → Nat
  | [] => 0
  | x :: r => uptoBulkEntry x + uptoBulkEntries r
def uptoBulkEntry {H : Type} : Lit × DataW H → Nat
  | (.string bytes, d) => bytes.length + uptoBulk d + 1
  | (_, d) => uptoBulk d + 1
 end
def uptoSmall : (H : Type) → List (DataW H) → Bool := fun _ ds => decide (uptoBulkAll ds ≤ 1048576)
def OpenSpec.upto (s : _root_.Go.ChangeSpec) : _root_.Go.OpenSpec := { _root_.Go.OpenSpec.ofChange s with cond := some uptoSmall }

/-- 'bellowslaw06.RunsWrites', WHERE WHAT IT READS IS OF BULK AT MOST 1048576: true; the input reads as it did. -/
def runsWritesUptoRow : OpenClaim := { program := "ytehndlafbbpofaa", sum := "a0cef2ea1d62779c4d76cacae2a9e4a0f949fe8c10a1ba0b1710d12fd8603a1e", func := "bellows/bellowslaw06.RunsWrites", spec := "runsWrites", unfollowed := true, recurses := true, apart := false, narrowed := true }
def RunsWritesUptoSaid : Prop := runsWritesUptoRow.holds Try.pinned (OpenSpec.upto runsWritesSpec)

/-- 'bellowslaw06.RunsReads', WHERE WHAT IT READS IS OF BULK AT MOST 1048576: true; the input reads as it did. -/
def runsReadsUptoRow : OpenClaim := { program := "ytehndlafbbpofaa", sum := "a0cef2ea1d62779c4d76cacae2a9e4a0f949fe8c10a1ba0b1710d12fd8603a1e", func := "bellows/bellowslaw06.RunsReads", spec := "runsReads", unfollowed := true, recurses := true, apart := false, narrowed := true }
def RunsReadsUptoSaid : Prop := runsReadsUptoRow.holds Try.pinned (OpenSpec.upto runsReadsSpec)

/-- 'bellowslaw06.RunsBack', WHERE WHAT IT READS IS OF BULK AT MOST 1048576: true; the input reads as it did. -/
def runsBackUptoRow : OpenClaim := { program := "ytehndlafbbpofaa", sum := "a0cef2ea1d62779c4d76cacae2a9e4a0f949fe8c10a1ba0b1710d12fd8603a1e", func := "bellows/bellowslaw06.RunsBack", spec := "runsBack", unfollowed := true, recurses := true, apart := false, narrowed := true }
def RunsBackUptoSaid : Prop := runsBackUptoRow.holds Try.pinned (OpenSpec.upto runsBackSpec)

/-- 'bellowslaw06.RunsTurned', WHERE WHAT IT READS IS OF BULK AT MOST 1048576: true; the input reads as it did. -/
def runsTurnedUptoRow : OpenClaim := { program := "ytehndlafbbpofaa", sum := "a0cef2ea1d62779c4d76cacae2a9e4a0f949fe8c10a1ba0b1710d12fd8603a1e", func := "bellows/bellowslaw06.RunsTurned", spec := "runsTurned", unfollowed := true, recurses := true, apart := false, narrowed := true }
def RunsTurnedUptoSaid : Prop := runsTurnedUptoRow.holds Try.pinned (OpenSpec.upto runsTurnedSpec)

/-- 'bellowslaw06.RunsFolds', WHERE WHAT IT READS IS OF BULK AT MOST 1048576: true; the input reads as it did. -/
def runsFoldsUptoRow : OpenClaim := { program := "ytehndlafbbpofaa", sum := "a0cef2ea1d62779c4d76cacae2a9e4a0f949fe8c10a1ba0b1710d12fd8603a1e", func := "bellows/bellowslaw06.RunsFolds", spec := "runsFolds", unfollowed := true, recurses := true, apart := false, narrowed := true }
def RunsFoldsUptoSaid : Prop := runsFoldsUptoRow.holds Try.pinned (OpenSpec.upto runsFoldsSpec)

/-- 'bellowslaw06.RunsParts', WHERE WHAT IT READS IS OF BULK AT MOST 1048576: true; the input reads as it did. -/
def runsPartsUptoRow : OpenClaim := { program := "ytehndlafbbpofaa", sum := "a0cef2ea1d62779c4d76cacae2a9e4a0f949fe8c10a1ba0b1710d12fd8603a1e", func := "bellows/bellowslaw06.RunsParts", spec := "runsParts", unfollowed := true, recurses := true, apart := false, narrowed := true }
def RunsPartsUptoSaid : Prop := runsPartsUptoRow.holds Try.pinned (OpenSpec.upto runsPartsSpec)

/-- 'bellowslaw06.RunsLast', WHERE WHAT IT READS IS OF BULK AT MOST 1048576: true; the input reads as it did. -/
def runsLastUptoRow : OpenClaim := { program := "ytehndlafbbpofaa", sum := "a0cef2ea1d62779c4d76cacae2a9e4a0f949fe8c10a1ba0b1710d12fd8603a1e", func := "bellows/bellowslaw06.RunsLast", spec := "runsLast", unfollowed := true, recurses := true, apart := false, narrowed := true }
def RunsLastUptoSaid : Prop := runsLastUptoRow.holds Try.pinned (OpenSpec.upto runsLastSpec)

/-- 'bellowslaw05.ReclogScans', WHERE WHAT IT READS IS OF BULK AT MOST 1048576: true; the input reads as it did. -/
def reclogScansUptoRow : OpenClaim := { program := "ytehndlafbbpofaa", sum := "a0cef2ea1d62779c4d76cacae2a9e4a0f949fe8c10a1ba0b1710d12fd8603a1e", func := "bellows/bellowslaw05.ReclogScans", spec := "reclogScans", unfollowed := true, recurses := true, apart := false, narrowed := true }
def ReclogScansUptoSaid : Prop := reclogScansUptoRow.holds Try.pinned (OpenSpec.upto reclogScansSpec)

/-- 'bellowslaw05.ReclogCuts', WHERE WHAT IT READS IS OF BULK AT MOST 1048576: true; the input reads as it did. -/
def reclogCutsUptoRow : OpenClaim := { program := "ytehndlafbbpofaa", sum := "a0cef2ea1d62779c4d76cacae2a9e4a0f949fe8c10a1ba0b1710d12fd8603a1e", func := "bellows/bellowslaw05.ReclogCuts", spec := "reclogCuts", unfollowed := true, recurses := true, apart := false, narrowed := true }
def ReclogCutsUptoSaid : Prop := reclogCutsUptoRow.holds Try.pinned (OpenSpec.upto reclogCutsSpec)

/-- 'bellowslaw05.ReclogTurned', WHERE WHAT IT READS IS OF BULK AT MOST 1048576: true; the input reads as it did. -/
def reclogTurnedUptoRow : OpenClaim := { program := "ytehndlafbbpofaa", sum := "a0cef2ea1d62779c4d76cacae2a9e4a0f949fe8c10a1ba0b1710d12fd8603a1e", func := "bellows/bellowslaw05.ReclogTurned", spec := "reclogTurned", unfollowed := true, recurses := true, apart := false, narrowed := true }
def ReclogTurnedUptoSaid : Prop := reclogTurnedUptoRow.holds Try.pinned (OpenSpec.upto reclogTurnedSpec)

end Rows
end Go.Proofs.Ytehndlafbbpofaa
