/-
  No cell of these rows narrows 'for every input' (looked for: loops, veiled, ifaces, maps, wideKeys, modest, calm, conditions, laid).
  DERIVED. THE GIVEN ROWS OF THIS SEAT. 6 by the template 'for every input the law returns true; each argument reads behind the call as it read before'; 0 by the template 'total and deterministic' (their statements: YtinonkakpgiblaaTotals.lean).
  GIVEN WITH THE SEED: the statements are not yours to turn. If you find one false, say at which input.
  Laid BY PROGRAM, IN A SANDBOX (cutbox-rows.mjs): the forced cells as the released guide's own fill.sh prints them over the translation bd033c49f0ca18f5… (all of the seat's roots in one cut). By AI agents, Wed Nov 11 2026. No macro, syntax, notation, axiom, sorry.
-/
import Derived.Test.YtinonkakpgiblaaChecked
import GoSem.Claim
import GoSem.ClaimJoined
import GoSem.ClaimMapViews
import Derived.JoinedTies
import Derived.KernelRfl
namespace Go.Proofs.Ytinonkakpgiblaa
/- THE CELL 'sum', in the pinned program and in every row, IS THE sha256 OF THE DUMP (.gsa) THAT YtinonkakpgiblaaProg.lean LOADS. Nothing in Lean hashes anything: it is a label: what it is worth is what the hold of that sum in a sandbox is worth. -/
noncomputable def Try.pinned : Pinned := { name := "ytinonkakpgiblaa", sum := "bd033c49f0ca18f58f5d08d2e908dd5c8a21d5f2bdc09345ba077857a1d1c711", checked := Try.checked }
namespace Rows
def none {H : Type} : Left H := { results := [], args := [] }

/-- 'bellowslaw07.NamesOnce': WHATEVER THE INPUT: true; the input reads as it did. -/
def namesOnceSpec : ChangeSpec := { name := "namesOnce", fn := fun _ => fun
  | [d1, d2] => { results := [.lit (.bool true)], args := [d1, d2] }
  | _ => none }
def namesOnceRow : OpenClaim := { program := "ytinonkakpgiblaa", sum := "bd033c49f0ca18f58f5d08d2e908dd5c8a21d5f2bdc09345ba077857a1d1c711", func := "bellows/bellowslaw07.NamesOnce", spec := "namesOnce", unfollowed := true, recurses := true, apart := false }
def NamesOnceSaid : Prop := namesOnceRow.holds Try.pinned (OpenSpec.ofChange namesOnceSpec)

/-- ITS FALSE NEIGHBOUR: 'it returns false'. Refute it at one input. -/
def namesOnceWrong : ChangeSpec := { name := "namesOnce", fn := fun _ => fun
  | [d1, d2] => { results := [.lit (.bool false)], args := [d1, d2] }
  | _ => none }
def NamesOnceWrongFalsely : Prop := namesOnceRow.holds Try.pinned (OpenSpec.ofChange namesOnceWrong)

/-- 'bellowslaw07.NamesTold': WHATEVER THE INPUT: true; the input reads as it did. -/
def namesToldSpec : ChangeSpec := { name := "namesTold", fn := fun _ => fun
  | [d] => { results := [.lit (.bool true)], args := [d] }
  | _ => none }
def namesToldRow : OpenClaim := { program := "ytinonkakpgiblaa", sum := "bd033c49f0ca18f58f5d08d2e908dd5c8a21d5f2bdc09345ba077857a1d1c711", func := "bellows/bellowslaw07.NamesTold", spec := "namesTold", unfollowed := true, recurses := true, apart := false }
def NamesToldSaid : Prop := namesToldRow.holds Try.pinned (OpenSpec.ofChange namesToldSpec)

/-- ITS FALSE NEIGHBOUR: 'it returns false'. Refute it at one input. -/
def namesToldWrong : ChangeSpec := { name := "namesTold", fn := fun _ => fun
  | [d] => { results := [.lit (.bool false)], args := [d] }
  | _ => none }
def NamesToldWrongFalsely : Prop := namesToldRow.holds Try.pinned (OpenSpec.ofChange namesToldWrong)

/-- 'bellowslaw07.NamesGrow': WHATEVER THE INPUT: true; the input reads as it did. -/
def namesGrowSpec : ChangeSpec := { name := "namesGrow", fn := fun _ => fun
  | [d] => { results := [.lit (.bool true)], args := [d] }
  | _ => none }
def namesGrowRow : OpenClaim := { program := "ytinonkakpgiblaa", sum := "bd033c49f0ca18f58f5d08d2e908dd5c8a21d5f2bdc09345ba077857a1d1c711", func := "bellows/bellowslaw07.NamesGrow", spec := "namesGrow", unfollowed := true, recurses := true, apart := false }
def NamesGrowSaid : Prop := namesGrowRow.holds Try.pinned (OpenSpec.ofChange namesGrowSpec)

/-- ITS FALSE NEIGHBOUR: 'it returns false'. Refute it at one input. -/
def namesGrowWrong : ChangeSpec := { name := "namesGrow", fn := fun _ => fun
  | [d] => { results := [.lit (.bool false)], args := [d] }
  | _ => none }
def NamesGrowWrongFalsely : Prop := namesGrowRow.holds Try.pinned (OpenSpec.ofChange namesGrowWrong)

/-- 'bellowslaw07.NamesTakes': WHATEVER THE INPUT: true; the input reads as it did. -/
def namesTakesSpec : ChangeSpec := { name := "namesTakes", fn := fun _ => fun
  | [d1, d2] => { results := [.lit (.bool true)], args := [d1, d2] }
  | _ => none }
def namesTakesRow : OpenClaim := { program := "ytinonkakpgiblaa", sum := "bd033c49f0ca18f58f5d08d2e908dd5c8a21d5f2bdc09345ba077857a1d1c711", func := "bellows/bellowslaw07.NamesTakes", spec := "namesTakes", unfollowed := true, recurses := true, apart := false }
def NamesTakesSaid : Prop := namesTakesRow.holds Try.pinned (OpenSpec.ofChange namesTakesSpec)

/-- ITS FALSE NEIGHBOUR: 'it returns false'. Refute it at one input. -/
def namesTakesWrong : ChangeSpec := { name := "namesTakes", fn := fun _ => fun
  | [d1, d2] => { results := [.lit (.bool false)], args := [d1, d2] }
  | _ => none }
def NamesTakesWrongFalsely : Prop := namesTakesRow.holds Try.pinned (OpenSpec.ofChange namesTakesWrong)

/-- 'bellowslaw07.NamesPlans': WHATEVER THE INPUT: true; the input reads as it did. -/
def namesPlansSpec : ChangeSpec := { name := "namesPlans", fn := fun _ => fun
  | [d1, d2] => { results := [.lit (.bool true)], args := [d1, d2] }
  | _ => none }
def namesPlansRow : OpenClaim := { program := "ytinonkakpgiblaa", sum := "bd033c49f0ca18f58f5d08d2e908dd5c8a21d5f2bdc09345ba077857a1d1c711", func := "bellows/bellowslaw07.NamesPlans", spec := "namesPlans", unfollowed := true, recurses := true, apart := false }
def NamesPlansSaid : Prop := namesPlansRow.holds Try.pinned (OpenSpec.ofChange namesPlansSpec)

/-- ITS FALSE NEIGHBOUR: 'it returns false'. Refute it at one input. -/
def namesPlansWrong : ChangeSpec := { name := "namesPlans", fn := fun _ => fun
  | [d1, d2] => { results := [.lit (.bool false)], args := [d1, d2] }
  | _ => none }
def NamesPlansWrongFalsely : Prop := namesPlansRow.holds Try.pinned (OpenSpec.ofChange namesPlansWrong)

/-- 'bellowslaw07.NamesLive': WHATEVER THE INPUT: true; the input reads as it did. -/
def namesLiveSpec : ChangeSpec := { name := "namesLive", fn := fun _ => fun
  | [d1, d2] => { results := [.lit (.bool true)], args := [d1, d2] }
  | _ => none }
def namesLiveRow : OpenClaim := { program := "ytinonkakpgiblaa", sum := "bd033c49f0ca18f58f5d08d2e908dd5c8a21d5f2bdc09345ba077857a1d1c711", func := "bellows/bellowslaw07.NamesLive", spec := "namesLive", unfollowed := true, recurses := true, apart := false }
def NamesLiveSaid : Prop := namesLiveRow.holds Try.pinned (OpenSpec.ofChange namesLiveSpec)

/-- ITS FALSE NEIGHBOUR: 'it returns false'. Refute it at one input. -/
def namesLiveWrong : ChangeSpec := { name := "namesLive", fn := fun _ => fun
  | [d1, d2] => { results := [.lit (.bool false)], args := [d1, d2] }
  | _ => none }
def NamesLiveWrongFalsely : Prop := namesLiveRow.holds Try.pinned (OpenSpec.ofChange namesLiveWrong)

/- THE SECOND FORM. 'bulk': how many values and letters a reading holds, each counted each time it is reached (what is shared counts as often as it is met; a slice's spare places count too). A statement '..UptoSaid' is the law's where the arguments, and the package variables that the reading takes, are together of bulk at most 1048576: NARROWER than '..Said'. Prove '..Said' where nothing that the law and all that it calls make is longer than what came in: it says more and counts as full. Else prove '..UptoSaid'. A law counts once. -/
mutual
def uptoBulk {H : Type} : DataW H → Nat
  | .lit (.string bytes) => bytes.length + 1
  | .lit _ => 1
  | .nil => 1
  | .ptr d => uptoBulk d + 1
  | .slice elems spare => uptoBulkAll elems + uptoBulkAll spare + 1
  | .agg parts => uptoBulkAll parts + 1
  | .iface _ d => uptoBulk d + 1
  | .map entries => uptoBulkEntries entries + 1
  | .held _ => 1
def uptoBulkAll {H : Type} : List (DataW H) → Nat
  | [] => 0
  | d :: r => uptoBulk d + uptoBulkAll r
def uptoBulkEntries {H : Type} : List (Lit × DataW H) → Nat
  | [] => 0
  | x :: r => uptoBulkEntry x + uptoBulkEntries r
def uptoBulkEntry {H : Type} : Lit × DataW H → Nat
  | (.string bytes, d) => bytes.length + uptoBulk d + 1
  | (_, d) => uptoBulk d + 1
 end
def uptoSmall : (H : Type) → List (DataW H) → Bool := fun _ ds => decide (uptoBulkAll ds ≤ 1048576)
def OpenSpec.upto (s : _root_.Go.ChangeSpec) : _root_.Go.OpenSpec := { _root_.Go.OpenSpec.ofChange s with cond := some uptoSmall }

/-- 'bellowslaw07.NamesOnce', WHERE WHAT IT READS IS OF BULK AT MOST 1048576: true; the input reads as it did. -/
def namesOnceUptoRow : OpenClaim := { program := "ytinonkakpgiblaa", sum := "bd033c49f0ca18f58f5d08d2e908dd5c8a21d5f2bdc09345ba077857a1d1c711", func := "bellows/bellowslaw07.NamesOnce", spec := "namesOnce", unfollowed := true, recurses := true, apart := false, narrowed := true }
def NamesOnceUptoSaid : Prop := namesOnceUptoRow.holds Try.pinned (OpenSpec.upto namesOnceSpec)

/-- 'bellowslaw07.NamesTold', WHERE WHAT IT READS IS OF BULK AT MOST 1048576: true; the input reads as it did. -/
def namesToldUptoRow : OpenClaim := { program := "ytinonkakpgiblaa", sum := "bd033c49f0ca18f58f5d08d2e908dd5c8a21d5f2bdc09345ba077857a1d1c711", func := "bellows/bellowslaw07.NamesTold", spec := "namesTold", unfollowed := true, recurses := true, apart := false, narrowed := true }
def NamesToldUptoSaid : Prop := namesToldUptoRow.holds Try.pinned (OpenSpec.upto namesToldSpec)

/-- 'bellowslaw07.NamesGrow', WHERE WHAT IT READS IS OF BULK AT MOST 1048576: true; the input reads as it did. -/
def namesGrowUptoRow : OpenClaim := { program := "ytinonkakpgiblaa", sum := "bd033c49f0ca18f58f5d08d2e908dd5c8a21d5f2bdc09345ba077857a1d1c711", func := "bellows/bellowslaw07.NamesGrow", spec := "namesGrow", unfollowed := true, recurses := true, apart := false, narrowed := true }
def NamesGrowUptoSaid : Prop := namesGrowUptoRow.holds Try.pinned (OpenSpec.upto namesGrowSpec)

/-- 'bellowslaw07.NamesTakes', WHERE WHAT IT READS IS OF BULK AT MOST 1048576: true; the input reads as it did. -/
def namesTakesUptoRow : OpenClaim := { program := "ytinonkakpgiblaa", sum := "bd033c49f0ca18f58f5d08d2e908dd5c8a21d5f2bdc09345ba077857a1d1c711", func := "bellows/bellowslaw07.NamesTakes", spec := "namesTakes", unfollowed := true, recurses := true, apart := false, narrowed := true }
def NamesTakesUptoSaid : Prop := namesTakesUptoRow.holds Try.pinned (OpenSpec.upto namesTakesSpec)

/-- 'bellowslaw07.NamesPlans', WHERE WHAT IT READS IS OF BULK AT MOST 1048576: true; the input reads as it did. -/
def namesPlansUptoRow : OpenClaim := { program := "ytinonkakpgiblaa", sum := "bd033c49f0ca18f58f5d08d2e908dd5c8a21d5f2bdc09345ba077857a1d1c711", func := "bellows/bellowslaw07.NamesPlans", spec := "namesPlans", unfollowed := true, recurses := true, apart := false, narrowed := true }
def NamesPlansUptoSaid : Prop := namesPlansUptoRow.holds Try.pinned (OpenSpec.upto namesPlansSpec)

/-- 'bellowslaw07.NamesLive', WHERE WHAT IT READS IS OF BULK AT MOST 1048576: true; the input reads as it did. -/
def namesLiveUptoRow : OpenClaim := { program := "ytinonkakpgiblaa", sum := "bd033c49f0ca18f58f5d08d2e908dd5c8a21d5f2bdc09345ba077857a1d1c711", func := "bellows/bellowslaw07.NamesLive", spec := "namesLive", unfollowed := true, recurses := true, apart := false, narrowed := true }
def NamesLiveUptoSaid : Prop := namesLiveUptoRow.holds Try.pinned (OpenSpec.upto namesLiveSpec)

end Rows
end Go.Proofs.Ytinonkakpgiblaa
