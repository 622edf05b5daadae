/-
  No cell of these rows narrows 'for every input' (looked for: loops, veiled, ifaces, maps, wideKeys, modest, calm, conditions, laid).
  DERIVED. THE GIVEN ROWS OF THIS SEAT. 12 by the template 'for every input the law returns true; each argument reads behind the call as it read before'; 0 by the template 'total and deterministic' (their statements: YtokempdkfpbpmaaTotals.lean).
  GIVEN WITH THE SEED: the statements are not yours to turn. If you find one false, say at which input.
  Laid BY PROGRAM, IN A SANDBOX (cutbox-rows.mjs): the forced cells as the released guide's own fill.sh prints them over the translation 01175eecccf19867… (all of the seat's roots in one cut). By AI agents, Wed Nov 11 2026. No macro, syntax, notation, axiom, sorry.
-/
import Derived.Test.YtokempdkfpbpmaaChecked
import GoSem.Claim
import GoSem.ClaimJoined
import GoSem.ClaimMapViews
import Derived.JoinedTies
import Derived.KernelRfl
namespace Go.Proofs.Ytokempdkfpbpmaa
/- THE CELL 'sum', in the pinned program and in every row, IS THE sha256 OF THE DUMP (.gsa) THAT YtokempdkfpbpmaaProg.lean LOADS. Nothing in Lean hashes anything: it is a label: what it is worth is what the hold of that sum in a sandbox is worth. -/
noncomputable def Try.pinned : Pinned := { name := "ytokempdkfpbpmaa", sum := "01175eecccf19867e4e5fe23cc009fb03eefb9b3ab77f0e32bc5d4e23744da46", checked := Try.checked }
namespace Rows
def none {H : Type} : Left H := { results := [], args := [] }

/-- 'bellowslaw01.CrcSums': WHATEVER THE INPUT: true; the input reads as it did. -/
def crcSumsSpec : ChangeSpec := { name := "crcSums", fn := fun _ => fun
  | [d] => { results := [.lit (.bool true)], args := [d] }
  | _ => none }
def crcSumsRow : OpenClaim := { program := "ytokempdkfpbpmaa", sum := "01175eecccf19867e4e5fe23cc009fb03eefb9b3ab77f0e32bc5d4e23744da46", func := "bellows/bellowslaw01.CrcSums", spec := "crcSums", unfollowed := true, recurses := true, apart := false }
def CrcSumsSaid : Prop := crcSumsRow.holds Try.pinned (OpenSpec.ofChange crcSumsSpec)

/-- ITS FALSE NEIGHBOUR: 'it returns false'. Refute it at one input. -/
def crcSumsWrong : ChangeSpec := { name := "crcSums", fn := fun _ => fun
  | [d] => { results := [.lit (.bool false)], args := [d] }
  | _ => none }
def CrcSumsWrongFalsely : Prop := crcSumsRow.holds Try.pinned (OpenSpec.ofChange crcSumsWrong)

/-- 'bellowslaw01.CrcMore': WHATEVER THE INPUT: true; the input reads as it did. -/
def crcMoreSpec : ChangeSpec := { name := "crcMore", fn := fun _ => fun
  | [d1, d2, d3] => { results := [.lit (.bool true)], args := [d1, d2, d3] }
  | _ => none }
def crcMoreRow : OpenClaim := { program := "ytokempdkfpbpmaa", sum := "01175eecccf19867e4e5fe23cc009fb03eefb9b3ab77f0e32bc5d4e23744da46", func := "bellows/bellowslaw01.CrcMore", spec := "crcMore", unfollowed := true, recurses := true, apart := false }
def CrcMoreSaid : Prop := crcMoreRow.holds Try.pinned (OpenSpec.ofChange crcMoreSpec)

/-- ITS FALSE NEIGHBOUR: 'it returns false'. Refute it at one input. -/
def crcMoreWrong : ChangeSpec := { name := "crcMore", fn := fun _ => fun
  | [d1, d2, d3] => { results := [.lit (.bool false)], args := [d1, d2, d3] }
  | _ => none }
def CrcMoreWrongFalsely : Prop := crcMoreRow.holds Try.pinned (OpenSpec.ofChange crcMoreWrong)

/-- 'bellowslaw01.CrcFlips': WHATEVER THE INPUT: true; the input reads as it did. -/
def crcFlipsSpec : ChangeSpec := { name := "crcFlips", fn := fun _ => fun
  | [d1, d2, d3] => { results := [.lit (.bool true)], args := [d1, d2, d3] }
  | _ => none }
def crcFlipsRow : OpenClaim := { program := "ytokempdkfpbpmaa", sum := "01175eecccf19867e4e5fe23cc009fb03eefb9b3ab77f0e32bc5d4e23744da46", func := "bellows/bellowslaw01.CrcFlips", spec := "crcFlips", unfollowed := true, recurses := true, apart := false }
def CrcFlipsSaid : Prop := crcFlipsRow.holds Try.pinned (OpenSpec.ofChange crcFlipsSpec)

/-- ITS FALSE NEIGHBOUR: 'it returns false'. Refute it at one input. -/
def crcFlipsWrong : ChangeSpec := { name := "crcFlips", fn := fun _ => fun
  | [d1, d2, d3] => { results := [.lit (.bool false)], args := [d1, d2, d3] }
  | _ => none }
def CrcFlipsWrongFalsely : Prop := crcFlipsRow.holds Try.pinned (OpenSpec.ofChange crcFlipsWrong)

/-- 'bellowslaw01.CrcLinear': WHATEVER THE INPUT: true; the input reads as it did. -/
def crcLinearSpec : ChangeSpec := { name := "crcLinear", fn := fun _ => fun
  | [d1, d2, d3] => { results := [.lit (.bool true)], args := [d1, d2, d3] }
  | _ => none }
def crcLinearRow : OpenClaim := { program := "ytokempdkfpbpmaa", sum := "01175eecccf19867e4e5fe23cc009fb03eefb9b3ab77f0e32bc5d4e23744da46", func := "bellows/bellowslaw01.CrcLinear", spec := "crcLinear", unfollowed := true, recurses := true, apart := false }
def CrcLinearSaid : Prop := crcLinearRow.holds Try.pinned (OpenSpec.ofChange crcLinearSpec)

/-- ITS FALSE NEIGHBOUR: 'it returns false'. Refute it at one input. -/
def crcLinearWrong : ChangeSpec := { name := "crcLinear", fn := fun _ => fun
  | [d1, d2, d3] => { results := [.lit (.bool false)], args := [d1, d2, d3] }
  | _ => none }
def CrcLinearWrongFalsely : Prop := crcLinearRow.holds Try.pinned (OpenSpec.ofChange crcLinearWrong)

/-- 'bellowslaw01.CrcNoughts': WHATEVER THE INPUT: true; the input reads as it did. -/
def crcNoughtsSpec : ChangeSpec := { name := "crcNoughts", fn := fun _ => fun
  | [d1, d2] => { results := [.lit (.bool true)], args := [d1, d2] }
  | _ => none }
def crcNoughtsRow : OpenClaim := { program := "ytokempdkfpbpmaa", sum := "01175eecccf19867e4e5fe23cc009fb03eefb9b3ab77f0e32bc5d4e23744da46", func := "bellows/bellowslaw01.CrcNoughts", spec := "crcNoughts", unfollowed := true, recurses := true, apart := false }
def CrcNoughtsSaid : Prop := crcNoughtsRow.holds Try.pinned (OpenSpec.ofChange crcNoughtsSpec)

/-- ITS FALSE NEIGHBOUR: 'it returns false'. Refute it at one input. -/
def crcNoughtsWrong : ChangeSpec := { name := "crcNoughts", fn := fun _ => fun
  | [d1, d2] => { results := [.lit (.bool false)], args := [d1, d2] }
  | _ => none }
def CrcNoughtsWrongFalsely : Prop := crcNoughtsRow.holds Try.pinned (OpenSpec.ofChange crcNoughtsWrong)

/-- 'bellowslaw01.CrcEnds': WHATEVER THE INPUT: true; the input reads as it did. -/
def crcEndsSpec : ChangeSpec := { name := "crcEnds", fn := fun _ => fun
  | [d1, d2] => { results := [.lit (.bool true)], args := [d1, d2] }
  | _ => none }
def crcEndsRow : OpenClaim := { program := "ytokempdkfpbpmaa", sum := "01175eecccf19867e4e5fe23cc009fb03eefb9b3ab77f0e32bc5d4e23744da46", func := "bellows/bellowslaw01.CrcEnds", spec := "crcEnds", unfollowed := true, recurses := true, apart := false }
def CrcEndsSaid : Prop := crcEndsRow.holds Try.pinned (OpenSpec.ofChange crcEndsSpec)

/-- ITS FALSE NEIGHBOUR: 'it returns false'. Refute it at one input. -/
def crcEndsWrong : ChangeSpec := { name := "crcEnds", fn := fun _ => fun
  | [d1, d2] => { results := [.lit (.bool false)], args := [d1, d2] }
  | _ => none }
def CrcEndsWrongFalsely : Prop := crcEndsRow.holds Try.pinned (OpenSpec.ofChange crcEndsWrong)

/-- 'bellowslaw01.CrcHash': WHATEVER THE INPUT: true; the input reads as it did. -/
def crcHashSpec : ChangeSpec := { name := "crcHash", fn := fun _ => fun
  | [d1, d2, d3] => { results := [.lit (.bool true)], args := [d1, d2, d3] }
  | _ => none }
def crcHashRow : OpenClaim := { program := "ytokempdkfpbpmaa", sum := "01175eecccf19867e4e5fe23cc009fb03eefb9b3ab77f0e32bc5d4e23744da46", func := "bellows/bellowslaw01.CrcHash", spec := "crcHash", unfollowed := true, recurses := true, apart := false }
def CrcHashSaid : Prop := crcHashRow.holds Try.pinned (OpenSpec.ofChange crcHashSpec)

/-- ITS FALSE NEIGHBOUR: 'it returns false'. Refute it at one input. -/
def crcHashWrong : ChangeSpec := { name := "crcHash", fn := fun _ => fun
  | [d1, d2, d3] => { results := [.lit (.bool false)], args := [d1, d2, d3] }
  | _ => none }
def CrcHashWrongFalsely : Prop := crcHashRow.holds Try.pinned (OpenSpec.ofChange crcHashWrong)

/-- 'bellowslaw02.PackPuts': WHATEVER THE INPUT: true; the input reads as it did. -/
def packPutsSpec : ChangeSpec := { name := "packPuts", fn := fun _ => fun
  | [d] => { results := [.lit (.bool true)], args := [d] }
  | _ => none }
def packPutsRow : OpenClaim := { program := "ytokempdkfpbpmaa", sum := "01175eecccf19867e4e5fe23cc009fb03eefb9b3ab77f0e32bc5d4e23744da46", func := "bellows/bellowslaw02.PackPuts", spec := "packPuts", apart := false }
def PackPutsSaid : Prop := packPutsRow.holds Try.pinned (OpenSpec.ofChange packPutsSpec)

/-- ITS FALSE NEIGHBOUR: 'it returns false'. Refute it at one input. -/
def packPutsWrong : ChangeSpec := { name := "packPuts", fn := fun _ => fun
  | [d] => { results := [.lit (.bool false)], args := [d] }
  | _ => none }
def PackPutsWrongFalsely : Prop := packPutsRow.holds Try.pinned (OpenSpec.ofChange packPutsWrong)

/-- 'bellowslaw02.PackSizes': WHATEVER THE INPUT: true; the input reads as it did. -/
def packSizesSpec : ChangeSpec := { name := "packSizes", fn := fun _ => fun
  | [d1, d2, d3] => { results := [.lit (.bool true)], args := [d1, d2, d3] }
  | _ => none }
def packSizesRow : OpenClaim := { program := "ytokempdkfpbpmaa", sum := "01175eecccf19867e4e5fe23cc009fb03eefb9b3ab77f0e32bc5d4e23744da46", func := "bellows/bellowslaw02.PackSizes", spec := "packSizes", apart := false }
def PackSizesSaid : Prop := packSizesRow.holds Try.pinned (OpenSpec.ofChange packSizesSpec)

/-- ITS FALSE NEIGHBOUR: 'it returns false'. Refute it at one input. -/
def packSizesWrong : ChangeSpec := { name := "packSizes", fn := fun _ => fun
  | [d1, d2, d3] => { results := [.lit (.bool false)], args := [d1, d2, d3] }
  | _ => none }
def PackSizesWrongFalsely : Prop := packSizesRow.holds Try.pinned (OpenSpec.ofChange packSizesWrong)

/-- 'bellowslaw02.PackReads': WHATEVER THE INPUT: true; the input reads as it did. -/
def packReadsSpec : ChangeSpec := { name := "packReads", fn := fun _ => fun
  | [d1, d2] => { results := [.lit (.bool true)], args := [d1, d2] }
  | _ => none }
def packReadsRow : OpenClaim := { program := "ytokempdkfpbpmaa", sum := "01175eecccf19867e4e5fe23cc009fb03eefb9b3ab77f0e32bc5d4e23744da46", func := "bellows/bellowslaw02.PackReads", spec := "packReads", apart := false }
def PackReadsSaid : Prop := packReadsRow.holds Try.pinned (OpenSpec.ofChange packReadsSpec)

/-- ITS FALSE NEIGHBOUR: 'it returns false'. Refute it at one input. -/
def packReadsWrong : ChangeSpec := { name := "packReads", fn := fun _ => fun
  | [d1, d2] => { results := [.lit (.bool false)], args := [d1, d2] }
  | _ => none }
def PackReadsWrongFalsely : Prop := packReadsRow.holds Try.pinned (OpenSpec.ofChange packReadsWrong)

/-- 'bellowslaw02.PackBack': WHATEVER THE INPUT: true; the input reads as it did. -/
def packBackSpec : ChangeSpec := { name := "packBack", fn := fun _ => fun
  | [d1, d2, d3] => { results := [.lit (.bool true)], args := [d1, d2, d3] }
  | _ => none }
def packBackRow : OpenClaim := { program := "ytokempdkfpbpmaa", sum := "01175eecccf19867e4e5fe23cc009fb03eefb9b3ab77f0e32bc5d4e23744da46", func := "bellows/bellowslaw02.PackBack", spec := "packBack", apart := false }
def PackBackSaid : Prop := packBackRow.holds Try.pinned (OpenSpec.ofChange packBackSpec)

/-- ITS FALSE NEIGHBOUR: 'it returns false'. Refute it at one input. -/
def packBackWrong : ChangeSpec := { name := "packBack", fn := fun _ => fun
  | [d1, d2, d3] => { results := [.lit (.bool false)], args := [d1, d2, d3] }
  | _ => none }
def PackBackWrongFalsely : Prop := packBackRow.holds Try.pinned (OpenSpec.ofChange packBackWrong)

/-- 'bellowslaw02.PackCuts': WHATEVER THE INPUT: true; the input reads as it did. -/
def packCutsSpec : ChangeSpec := { name := "packCuts", fn := fun _ => fun
  | [d1, d2] => { results := [.lit (.bool true)], args := [d1, d2] }
  | _ => none }
def packCutsRow : OpenClaim := { program := "ytokempdkfpbpmaa", sum := "01175eecccf19867e4e5fe23cc009fb03eefb9b3ab77f0e32bc5d4e23744da46", func := "bellows/bellowslaw02.PackCuts", spec := "packCuts", apart := false }
def PackCutsSaid : Prop := packCutsRow.holds Try.pinned (OpenSpec.ofChange packCutsSpec)

/-- ITS FALSE NEIGHBOUR: 'it returns false'. Refute it at one input. -/
def packCutsWrong : ChangeSpec := { name := "packCuts", fn := fun _ => fun
  | [d1, d2] => { results := [.lit (.bool false)], args := [d1, d2] }
  | _ => none }
def PackCutsWrongFalsely : Prop := packCutsRow.holds Try.pinned (OpenSpec.ofChange packCutsWrong)

/- THE SECOND FORM. 'bulk': how many values and letters a reading holds, each counted each time it is reached (what is shared counts as often as it is met; a slice's spare places count too). A statement '..UptoSaid' is the law's where the arguments, and the package variables that the reading takes, are together of bulk at most 1048576: NARROWER than '..Said'. Prove '..Said' where nothing that the law and all that it calls make is longer than what came in: it says more and counts as full. Else prove '..UptoSaid'. A law counts once. -/
mutual
def uptoBulk {H : Type} : DataW H → Nat
  | .lit (.string bytes) => bytes.length + 1
  | .lit _ => 1
  | .nil => 1
  | .ptr d => uptoBulk d + 1
  | .slice elems spare => uptoBulkAll elems + uptoBulkAll spare + 1
  | .agg parts => uptoBulkAll parts + 1
  | .iface _ d => uptoBulk d + 1
  | .map entries => uptoBulkEntries entries + 1
  | .held _ => 1
def uptoBulkAll {H : Type} : List (DataW H) → Nat
  | [] => 0
  | d :: r => uptoBulk d + uptoBulkAll r
def uptoBulkEntries {H : Type} : List (Lit × DataW H) → Nat
  | [] => 0
  | x :: r => uptoBulkEntry x + uptoBulkEntries r
def uptoBulkEntry {H : Type} : Lit × DataW H → Nat
  | (.string bytes, d) => bytes.length + uptoBulk d + 1
  | (_, d) => uptoBulk d + 1
 end
def uptoSmall : (H : Type) → List (DataW H) → Bool := fun _ ds => decide (uptoBulkAll ds ≤ 1048576)
def OpenSpec.upto (s : _root_.Go.ChangeSpec) : _root_.Go.OpenSpec := { _root_.Go.OpenSpec.ofChange s with cond := some uptoSmall }

/-- 'bellowslaw01.CrcSums', WHERE WHAT IT READS IS OF BULK AT MOST 1048576: true; the input reads as it did. -/
def crcSumsUptoRow : OpenClaim := { program := "ytokempdkfpbpmaa", sum := "01175eecccf19867e4e5fe23cc009fb03eefb9b3ab77f0e32bc5d4e23744da46", func := "bellows/bellowslaw01.CrcSums", spec := "crcSums", unfollowed := true, recurses := true, apart := false, narrowed := true }
def CrcSumsUptoSaid : Prop := crcSumsUptoRow.holds Try.pinned (OpenSpec.upto crcSumsSpec)

/-- 'bellowslaw01.CrcMore', WHERE WHAT IT READS IS OF BULK AT MOST 1048576: true; the input reads as it did. -/
def crcMoreUptoRow : OpenClaim := { program := "ytokempdkfpbpmaa", sum := "01175eecccf19867e4e5fe23cc009fb03eefb9b3ab77f0e32bc5d4e23744da46", func := "bellows/bellowslaw01.CrcMore", spec := "crcMore", unfollowed := true, recurses := true, apart := false, narrowed := true }
def CrcMoreUptoSaid : Prop := crcMoreUptoRow.holds Try.pinned (OpenSpec.upto crcMoreSpec)

/-- 'bellowslaw01.CrcFlips', WHERE WHAT IT READS IS OF BULK AT MOST 1048576: true; the input reads as it did. -/
def crcFlipsUptoRow : OpenClaim := { program := "ytokempdkfpbpmaa", sum := "01175eecccf19867e4e5fe23cc009fb03eefb9b3ab77f0e32bc5d4e23744da46", func := "bellows/bellowslaw01.CrcFlips", spec := "crcFlips", unfollowed := true, recurses := true, apart := false, narrowed := true }
def CrcFlipsUptoSaid : Prop := crcFlipsUptoRow.holds Try.pinned (OpenSpec.upto crcFlipsSpec)

/-- 'bellowslaw01.CrcLinear', WHERE WHAT IT READS IS OF BULK AT MOST 1048576: true; the input reads as it did. -/
def crcLinearUptoRow : OpenClaim := { program := "ytokempdkfpbpmaa", sum := "01175eecccf19867e4e5fe23cc009fb03eefb9b3ab77f0e32bc5d4e23744da46", func := "bellows/bellowslaw01.CrcLinear", spec := "crcLinear", unfollowed := true, recurses := true, apart := false, narrowed := true }
def CrcLinearUptoSaid : Prop := crcLinearUptoRow.holds Try.pinned (OpenSpec.upto crcLinearSpec)

/-- 'bellowslaw01.CrcNoughts', WHERE WHAT IT READS IS OF BULK AT MOST 1048576: true; the input reads as it did. -/
def crcNoughtsUptoRow : OpenClaim := { program := "ytokempdkfpbpmaa", sum := "01175eecccf19867e4e5fe23cc009fb03eefb9b3ab77f0e32bc5d4e23744da46", func := "bellows/bellowslaw01.CrcNoughts", spec := "crcNoughts", unfollowed := true, recurses := true, apart := false, narrowed := true }
def CrcNoughtsUptoSaid : Prop := crcNoughtsUptoRow.holds Try.pinned (OpenSpec.upto crcNoughtsSpec)

/-- 'bellowslaw01.CrcEnds', WHERE WHAT IT READS IS OF BULK AT MOST 1048576: true; the input reads as it did. -/
def crcEndsUptoRow : OpenClaim := { program := "ytokempdkfpbpmaa", sum := "01175eecccf19867e4e5fe23cc009fb03eefb9b3ab77f0e32bc5d4e23744da46", func := "bellows/bellowslaw01.CrcEnds", spec := "crcEnds", unfollowed := true, recurses := true, apart := false, narrowed := true }
def CrcEndsUptoSaid : Prop := crcEndsUptoRow.holds Try.pinned (OpenSpec.upto crcEndsSpec)

/-- 'bellowslaw01.CrcHash', WHERE WHAT IT READS IS OF BULK AT MOST 1048576: true; the input reads as it did. -/
def crcHashUptoRow : OpenClaim := { program := "ytokempdkfpbpmaa", sum := "01175eecccf19867e4e5fe23cc009fb03eefb9b3ab77f0e32bc5d4e23744da46", func := "bellows/bellowslaw01.CrcHash", spec := "crcHash", unfollowed := true, recurses := true, apart := false, narrowed := true }
def CrcHashUptoSaid : Prop := crcHashUptoRow.holds Try.pinned (OpenSpec.upto crcHashSpec)

/-- 'bellowslaw02.PackPuts', WHERE WHAT IT READS IS OF BULK AT MOST 1048576: true; the input reads as it did. -/
def packPutsUptoRow : OpenClaim := { program := "ytokempdkfpbpmaa", sum := "01175eecccf19867e4e5fe23cc009fb03eefb9b3ab77f0e32bc5d4e23744da46", func := "bellows/bellowslaw02.PackPuts", spec := "packPuts", apart := false, narrowed := true }
def PackPutsUptoSaid : Prop := packPutsUptoRow.holds Try.pinned (OpenSpec.upto packPutsSpec)

/-- 'bellowslaw02.PackSizes', WHERE WHAT IT READS IS OF BULK AT MOST 1048576: true; the input reads as it did. -/
def packSizesUptoRow : OpenClaim := { program := "ytokempdkfpbpmaa", sum := "01175eecccf19867e4e5fe23cc009fb03eefb9b3ab77f0e32bc5d4e23744da46", func := "bellows/bellowslaw02.PackSizes", spec := "packSizes", apart := false, narrowed := true }
def PackSizesUptoSaid : Prop := packSizesUptoRow.holds Try.pinned (OpenSpec.upto packSizesSpec)

/-- 'bellowslaw02.PackReads', WHERE WHAT IT READS IS OF BULK AT MOST 1048576: true; the input reads as it did. -/
def packReadsUptoRow : OpenClaim := { program := "ytokempdkfpbpmaa", sum := "01175eecccf19867e4e5fe23cc009fb03eefb9b3ab77f0e32bc5d4e23744da46", func := "bellows/bellowslaw02.PackReads", spec := "packReads", apart := false, narrowed := true }
def PackReadsUptoSaid : Prop := packReadsUptoRow.holds Try.pinned (OpenSpec.upto packReadsSpec)

/-- 'bellowslaw02.PackBack', WHERE WHAT IT READS IS OF BULK AT MOST 1048576: true; the input reads as it did. -/
def packBackUptoRow : OpenClaim := { program := "ytokempdkfpbpmaa", sum := "01175eecccf19867e4e5fe23cc009fb03eefb9b3ab77f0e32bc5d4e23744da46", func := "bellows/bellowslaw02.PackBack", spec := "packBack", apart := false, narrowed := true }
def PackBackUptoSaid : Prop := packBackUptoRow.holds Try.pinned (OpenSpec.upto packBackSpec)

/-- 'bellowslaw02.PackCuts', WHERE WHAT IT READS IS OF BULK AT MOST 1048576: true; the input reads as it did. -/
def packCutsUptoRow : OpenClaim := { program := "ytokempdkfpbpmaa", sum := "01175eecccf19867e4e5fe23cc009fb03eefb9b3ab77f0e32bc5d4e23744da46", func := "bellows/bellowslaw02.PackCuts", spec := "packCuts", apart := false, narrowed := true }
def PackCutsUptoSaid : Prop := packCutsUptoRow.holds Try.pinned (OpenSpec.upto packCutsSpec)

end Rows
end Go.Proofs.Ytokempdkfpbpmaa
