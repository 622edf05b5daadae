/-
  NARROWER THAN 'FOR EVERY INPUT', by the rows' own cells (each row's printed sentence says how): DiskSure: laid · DiskTimes: laid · DiskNone: laid · ReclogSpare: laid · ReclogRewrites: laid · ReclogSure: laid.
  DERIVED. THE GIVEN ROWS OF THIS SEAT. 6 by the template 'for every input the law returns true; each argument reads behind the call as it read before'; 0 by the template 'total and deterministic' (their statements: YtononoakdebjeaaGreatDoorTotals.lean).
  GIVEN WITH THE SEED: the statements are not yours to turn. If you find one false, say at which input.
  Laid BY PROGRAM, IN A SANDBOX (cutbox-rows.mjs): the forced cells as the released guide's own fill.sh prints them over the translation c605b3623754ae40… (all of the seat's roots in one cut). By AI agents, Wed Nov 11 2026. No macro, syntax, notation, axiom, sorry.
-/
import Derived.Test.YtononoakdebjeaaGreatDoorChecked
import GoSem.PinnedTables
import GoSem.Claim
import GoSem.ClaimJoined
import GoSem.ClaimMapViews
import Derived.JoinedTies
import Derived.KernelRfl
namespace Go.Proofs.YtononoakdebjeaaGreatDoor
/- THE CELL 'sum', in the pinned program and in every row, IS THE sha256 OF THE DUMP (.gsa) THAT YtononoakdebjeaaGreatDoorProg.lean LOADS. Nothing in Lean hashes anything: it is a label: what it is worth is what the hold of that sum in a sandbox is worth. -/
noncomputable def Tryz.pinned : Pinned := { name := "ytononoakdebjeaagreatdoor", sum := "c605b3623754ae405d07233fdb4aa4181ea5755a07ea57a09bcc34643de28d1c", checked := Tryz.checked }
namespace Rows
def none {H : Type} : Left H := { results := [], args := [] }

/- WHAT THE LISTED PACKAGE-LEVEL VARIABLES READ AS WHEN THE CALL BEGINS. Each datum BY PROGRAM (the guide's laid-datum.mjs) off the statement by which the dump's own 'gosem.cut.vars' lays the variable. In a bare row this is a premise. The card (YtononoakdebjeaaGreatDoorCards.lean) ties it to the program's text. -/
def laid_unicode_utf8_acceptRanges {H : Type} : DataW H := .agg [.agg [.lit (.int .u8 128), .lit (.int .u8 191)], .agg [.lit (.int .u8 160), .lit (.int .u8 191)], .agg [.lit (.int .u8 128), .lit (.int .u8 159)], .agg [.lit (.int .u8 144), .lit (.int .u8 191)], .agg [.lit (.int .u8 128), .lit (.int .u8 143)], .agg [.lit (.int .u8 0), .lit (.int .u8 0)], .agg [.lit (.int .u8 0), .lit (.int .u8 0)], .agg [.lit (.int .u8 0), .lit (.int .u8 0)], .agg [.lit (.int .u8 0), .lit (.int .u8 0)], .agg [.lit (.int .u8 0), .lit (.int .u8 0)], .agg [.lit (.int .u8 0), .lit (.int .u8 0)], .agg [.lit (.int .u8 0), .lit (.int .u8 0)], .agg [.lit (.int .u8 0), .lit (.int .u8 0)], .agg [.lit (.int .u8 0), .lit (.int .u8 0)], .agg [.lit (.int .u8 0), .lit (.int .u8 0)], .agg [.lit (.int .u8 0), .lit (.int .u8 0)]]
/-- One of Go's own tables, pinned by name: the form's constant. -/
def laid_unicode_utf8_first : DataW Unit := Go.Pinned.utf8First

/-- 'bellowslaw04.DiskSure': WHATEVER THE INPUT: true; the input reads as it did. -/
def diskSureSpec : ChangeSpec := { name := "diskSure", fn := fun _ => fun
  | [d1, d2, d3] => { results := [.lit (.bool true)], args := [d1, d2, d3] }
  | _ => none }
def diskSureRow : OpenClaim := { program := "ytononoakdebjeaagreatdoor", sum := "c605b3623754ae405d07233fdb4aa4181ea5755a07ea57a09bcc34643de28d1c", func := "bellows/bellowslaw04.DiskSure", spec := "diskSure", inPlace := ["internal/bytealg.IndexByteString", "internal/bytealg.IndexString", "internal/abi.NoEscape", "internal/bytealg.MakeNoZero", "maps.clone"], unfollowed := true, recurses := true, named := ["unicode/utf8.first", "unicode/utf8.acceptRanges", "internal/bytealg.MaxLen"], apart := false, laid := [("unicode/utf8.acceptRanges", laid_unicode_utf8_acceptRanges), ("unicode/utf8.first", laid_unicode_utf8_first)] }
def DiskSureSaid : Prop := diskSureRow.holds Tryz.pinned (OpenSpec.ofChange diskSureSpec)

/-- ITS FALSE NEIGHBOUR: 'it returns false'. Refute it at one input. -/
def diskSureWrong : ChangeSpec := { name := "diskSure", fn := fun _ => fun
  | [d1, d2, d3] => { results := [.lit (.bool false)], args := [d1, d2, d3] }
  | _ => none }
def DiskSureWrongFalsely : Prop := diskSureRow.holds Tryz.pinned (OpenSpec.ofChange diskSureWrong)

/-- 'bellowslaw04.DiskTimes': WHATEVER THE INPUT: true; the input reads as it did. -/
def diskTimesSpec : ChangeSpec := { name := "diskTimes", fn := fun _ => fun
  | [d] => { results := [.lit (.bool true)], args := [d] }
  | _ => none }
def diskTimesRow : OpenClaim := { program := "ytononoakdebjeaagreatdoor", sum := "c605b3623754ae405d07233fdb4aa4181ea5755a07ea57a09bcc34643de28d1c", func := "bellows/bellowslaw04.DiskTimes", spec := "diskTimes", inPlace := ["maps.clone", "internal/bytealg.IndexByteString", "internal/bytealg.IndexString", "internal/abi.NoEscape", "internal/bytealg.MakeNoZero"], unfollowed := true, recurses := true, named := ["unicode/utf8.first", "unicode/utf8.acceptRanges", "internal/bytealg.MaxLen"], apart := false, laid := [("unicode/utf8.acceptRanges", laid_unicode_utf8_acceptRanges), ("unicode/utf8.first", laid_unicode_utf8_first)] }
def DiskTimesSaid : Prop := diskTimesRow.holds Tryz.pinned (OpenSpec.ofChange diskTimesSpec)

/-- ITS FALSE NEIGHBOUR: 'it returns false'. Refute it at one input. -/
def diskTimesWrong : ChangeSpec := { name := "diskTimes", fn := fun _ => fun
  | [d] => { results := [.lit (.bool false)], args := [d] }
  | _ => none }
def DiskTimesWrongFalsely : Prop := diskTimesRow.holds Tryz.pinned (OpenSpec.ofChange diskTimesWrong)

/-- 'bellowslaw04.DiskNone': WHATEVER THE INPUT: true; the input reads as it did. -/
def diskNoneSpec : ChangeSpec := { name := "diskNone", fn := fun _ => fun
  | [d] => { results := [.lit (.bool true)], args := [d] }
  | _ => none }
def diskNoneRow : OpenClaim := { program := "ytononoakdebjeaagreatdoor", sum := "c605b3623754ae405d07233fdb4aa4181ea5755a07ea57a09bcc34643de28d1c", func := "bellows/bellowslaw04.DiskNone", spec := "diskNone", inPlace := ["maps.clone", "internal/bytealg.IndexByteString", "internal/bytealg.IndexString", "internal/abi.NoEscape", "internal/bytealg.MakeNoZero"], unfollowed := true, recurses := true, named := ["unicode/utf8.first", "unicode/utf8.acceptRanges", "internal/bytealg.MaxLen"], apart := false, laid := [("unicode/utf8.acceptRanges", laid_unicode_utf8_acceptRanges), ("unicode/utf8.first", laid_unicode_utf8_first)] }
def DiskNoneSaid : Prop := diskNoneRow.holds Tryz.pinned (OpenSpec.ofChange diskNoneSpec)

/-- ITS FALSE NEIGHBOUR: 'it returns false'. Refute it at one input. -/
def diskNoneWrong : ChangeSpec := { name := "diskNone", fn := fun _ => fun
  | [d] => { results := [.lit (.bool false)], args := [d] }
  | _ => none }
def DiskNoneWrongFalsely : Prop := diskNoneRow.holds Tryz.pinned (OpenSpec.ofChange diskNoneWrong)

/-- 'bellowslaw05.ReclogSpare': WHATEVER THE INPUT: true; the input reads as it did. -/
def reclogSpareSpec : ChangeSpec := { name := "reclogSpare", fn := fun _ => fun
  | [d1, d2, d3] => { results := [.lit (.bool true)], args := [d1, d2, d3] }
  | _ => none }
def reclogSpareRow : OpenClaim := { program := "ytononoakdebjeaagreatdoor", sum := "c605b3623754ae405d07233fdb4aa4181ea5755a07ea57a09bcc34643de28d1c", func := "bellows/bellowslaw05.ReclogSpare", spec := "reclogSpare", inPlace := ["internal/bytealg.IndexByteString", "internal/bytealg.IndexString", "internal/abi.NoEscape", "internal/bytealg.MakeNoZero", "maps.clone"], unfollowed := true, recurses := true, named := ["unicode/utf8.first", "unicode/utf8.acceptRanges", "internal/bytealg.MaxLen"], apart := false, laid := [("unicode/utf8.acceptRanges", laid_unicode_utf8_acceptRanges), ("unicode/utf8.first", laid_unicode_utf8_first)] }
def ReclogSpareSaid : Prop := reclogSpareRow.holds Tryz.pinned (OpenSpec.ofChange reclogSpareSpec)

/-- ITS FALSE NEIGHBOUR: 'it returns false'. Refute it at one input. -/
def reclogSpareWrong : ChangeSpec := { name := "reclogSpare", fn := fun _ => fun
  | [d1, d2, d3] => { results := [.lit (.bool false)], args := [d1, d2, d3] }
  | _ => none }
def ReclogSpareWrongFalsely : Prop := reclogSpareRow.holds Tryz.pinned (OpenSpec.ofChange reclogSpareWrong)

/-- 'bellowslaw05.ReclogRewrites': WHATEVER THE INPUT: true; the input reads as it did. -/
def reclogRewritesSpec : ChangeSpec := { name := "reclogRewrites", fn := fun _ => fun
  | [d1, d2, d3] => { results := [.lit (.bool true)], args := [d1, d2, d3] }
  | _ => none }
def reclogRewritesRow : OpenClaim := { program := "ytononoakdebjeaagreatdoor", sum := "c605b3623754ae405d07233fdb4aa4181ea5755a07ea57a09bcc34643de28d1c", func := "bellows/bellowslaw05.ReclogRewrites", spec := "reclogRewrites", inPlace := ["internal/bytealg.IndexByteString", "internal/bytealg.IndexString", "internal/abi.NoEscape", "internal/bytealg.MakeNoZero", "maps.clone"], unfollowed := true, recurses := true, named := ["unicode/utf8.first", "unicode/utf8.acceptRanges", "internal/bytealg.MaxLen"], apart := false, laid := [("unicode/utf8.acceptRanges", laid_unicode_utf8_acceptRanges), ("unicode/utf8.first", laid_unicode_utf8_first)] }
def ReclogRewritesSaid : Prop := reclogRewritesRow.holds Tryz.pinned (OpenSpec.ofChange reclogRewritesSpec)

/-- ITS FALSE NEIGHBOUR: 'it returns false'. Refute it at one input. -/
def reclogRewritesWrong : ChangeSpec := { name := "reclogRewrites", fn := fun _ => fun
  | [d1, d2, d3] => { results := [.lit (.bool false)], args := [d1, d2, d3] }
  | _ => none }
def ReclogRewritesWrongFalsely : Prop := reclogRewritesRow.holds Tryz.pinned (OpenSpec.ofChange reclogRewritesWrong)

/-- 'bellowslaw05.ReclogSure': WHATEVER THE INPUT: true; the input reads as it did. -/
def reclogSureSpec : ChangeSpec := { name := "reclogSure", fn := fun _ => fun
  | [d] => { results := [.lit (.bool true)], args := [d] }
  | _ => none }
def reclogSureRow : OpenClaim := { program := "ytononoakdebjeaagreatdoor", sum := "c605b3623754ae405d07233fdb4aa4181ea5755a07ea57a09bcc34643de28d1c", func := "bellows/bellowslaw05.ReclogSure", spec := "reclogSure", inPlace := ["internal/bytealg.IndexByteString", "internal/bytealg.IndexString", "internal/abi.NoEscape", "internal/bytealg.MakeNoZero", "maps.clone"], unfollowed := true, recurses := true, named := ["unicode/utf8.first", "unicode/utf8.acceptRanges", "internal/bytealg.MaxLen"], apart := false, laid := [("unicode/utf8.acceptRanges", laid_unicode_utf8_acceptRanges), ("unicode/utf8.first", laid_unicode_utf8_first)] }
def ReclogSureSaid : Prop := reclogSureRow.holds Tryz.pinned (OpenSpec.ofChange reclogSureSpec)

/-- ITS FALSE NEIGHBOUR: 'it returns false'. Refute it at one input. -/
def reclogSureWrong : ChangeSpec := { name := "reclogSure", fn := fun _ => fun
  | [d] => { results := [.lit (.bool false)], args := [d] }
  | _ => none }
def ReclogSureWrongFalsely : Prop := reclogSureRow.holds Tryz.pinned (OpenSpec.ofChange reclogSureWrong)

/- THE SECOND FORM. 'bulk': how many values and letters a reading holds, each counted each time it is reached (what is shared counts as often as it is met; a slice's spare places count too). A statement '..UptoSaid' is the law's where the arguments, and the package variables that the reading takes, are together of bulk at most 1048576: NARROWER than '..Said'. Prove '..Said' where nothing that the law and all that it calls make is longer than what came in: it says more and counts as full. Else prove '..UptoSaid'. A law counts once. -/
mutual
def uptoBulk {H : Type} : DataW H → Nat
  | .lit (.string bytes) => bytes.length + 1
  | .lit _ => 1
  | .nil => 1
  | .ptr d => uptoBulk d + 1
  | .slice elems spare => uptoBulkAll elems + uptoBulkAll spare + 1
  | .agg parts => uptoBulkAll parts + 1
  | .iface _ d => uptoBulk d + 1
  | .map entries => uptoBulkEntries entries + 1
  | .held _ => 1
def uptoBulkAll {H : Type} : List (DataW H) → Nat
  | [] => 0
  | d :: r => uptoBulk d + uptoBulkAll r
def uptoBulkEntries {H : Type} : List (Lit × DataW H) → Nat
  | [] => 0
  | x :: r => uptoBulkEntry x + uptoBulkEntries r
def uptoBulkEntry {H : Type} : Lit × DataW H → Nat
  | (.string bytes, d) => bytes.length + uptoBulk d + 1
  | (_, d) => uptoBulk d + 1
 end
def uptoSmall : (H : Type) → List (DataW H) → Bool := fun _ ds => decide (uptoBulkAll ds ≤ 1048576)
def OpenSpec.upto (s : _root_.Go.ChangeSpec) : _root_.Go.OpenSpec := { _root_.Go.OpenSpec.ofChange s with cond := some uptoSmall }

/-- 'bellowslaw04.DiskSure', WHERE WHAT IT READS IS OF BULK AT MOST 1048576: true; the input reads as it did. -/
def diskSureUptoRow : OpenClaim := { program := "ytononoakdebjeaagreatdoor", sum := "c605b3623754ae405d07233fdb4aa4181ea5755a07ea57a09bcc34643de28d1c", func := "bellows/bellowslaw04.DiskSure", spec := "diskSure", inPlace := ["internal/bytealg.IndexByteString", "internal/bytealg.IndexString", "internal/abi.NoEscape", "internal/bytealg.MakeNoZero", "maps.clone"], unfollowed := true, recurses := true, named := ["unicode/utf8.first", "unicode/utf8.acceptRanges", "internal/bytealg.MaxLen"], apart := false, laid := [("unicode/utf8.acceptRanges", laid_unicode_utf8_acceptRanges), ("unicode/utf8.first", laid_unicode_utf8_first)], narrowed := true }
def DiskSureUptoSaid : Prop := diskSureUptoRow.holds Tryz.pinned (OpenSpec.upto diskSureSpec)

/-- 'bellowslaw04.DiskTimes', WHERE WHAT IT READS IS OF BULK AT MOST 1048576: true; the input reads as it did. -/
def diskTimesUptoRow : OpenClaim := { program := "ytononoakdebjeaagreatdoor", sum := "c605b3623754ae405d07233fdb4aa4181ea5755a07ea57a09bcc34643de28d1c", func := "bellows/bellowslaw04.DiskTimes", spec := "diskTimes", inPlace := ["maps.clone", "internal/bytealg.IndexByteString", "internal/bytealg.IndexString", "internal/abi.NoEscape", "internal/bytealg.MakeNoZero"], unfollowed := true, recurses := true, named := ["unicode/utf8.first", "unicode/utf8.acceptRanges", "internal/bytealg.MaxLen"], apart := false, laid := [("unicode/utf8.acceptRanges", laid_unicode_utf8_acceptRanges), ("unicode/utf8.first", laid_unicode_utf8_first)], narrowed := true }
def DiskTimesUptoSaid : Prop := diskTimesUptoRow.holds Tryz.pinned (OpenSpec.upto diskTimesSpec)

/-- 'bellowslaw04.DiskNone', WHERE WHAT IT READS IS OF BULK AT MOST 1048576: true; the input reads as it did. -/
def diskNoneUptoRow : OpenClaim := { program := "ytononoakdebjeaagreatdoor", sum := "c605b3623754ae405d07233fdb4aa4181ea5755a07ea57a09bcc34643de28d1c", func := "bellows/bellowslaw04.DiskNone", spec := "diskNone", inPlace := ["maps.clone", "internal/bytealg.IndexByteString", "internal/bytealg.IndexString", "internal/abi.NoEscape", "internal/bytealg.MakeNoZero"], unfollowed := true, recurses := true, named := ["unicode/utf8.first", "unicode/utf8.acceptRanges", "internal/bytealg.MaxLen"], apart := false, laid := [("unicode/utf8.acceptRanges", laid_unicode_utf8_acceptRanges), ("unicode/utf8.first", laid_unicode_utf8_first)], narrowed := true }
def DiskNoneUptoSaid : Prop := diskNoneUptoRow.holds Tryz.pinned (OpenSpec.upto diskNoneSpec)

/-- 'bellowslaw05.ReclogSpare', WHERE WHAT IT READS IS OF BULK AT MOST 1048576: true; the input reads as it did. -/
def reclogSpareUptoRow : OpenClaim := { program := "ytononoakdebjeaagreatdoor", sum := "c605b3623754ae405d07233fdb4aa4181ea5755a07ea57a09bcc34643de28d1c", func := "bellows/bellowslaw05.ReclogSpare", spec := "reclogSpare", inPlace := ["internal/bytealg.IndexByteString", "internal/bytealg.IndexString", "internal/abi.NoEscape", "internal/bytealg.MakeNoZero", "maps.clone"], unfollowed := true, recurses := true, named := ["unicode/utf8.first", "unicode/utf8.acceptRanges", "internal/bytealg.MaxLen"], apart := false, laid := [("unicode/utf8.acceptRanges", laid_unicode_utf8_acceptRanges), ("unicode/utf8.first", laid_unicode_utf8_first)], narrowed := true }
def ReclogSpareUptoSaid : Prop := reclogSpareUptoRow.holds Tryz.pinned (OpenSpec.upto reclogSpareSpec)

/-- 'bellowslaw05.ReclogRewrites', WHERE WHAT IT READS IS OF BULK AT MOST 1048576: true; the input reads as it did. -/
def reclogRewritesUptoRow : OpenClaim := { program := "ytononoakdebjeaagreatdoor", sum := "c605b3623754ae405d07233fdb4aa4181ea5755a07ea57a09bcc34643de28d1c", func := "bellows/bellowslaw05.ReclogRewrites", spec := "reclogRewrites", inPlace := ["internal/bytealg.IndexByteString", "internal/bytealg.IndexString", "internal/abi.NoEscape", "internal/bytealg.MakeNoZero", "maps.clone"], unfollowed := true, recurses := true, named := ["unicode/utf8.first", "unicode/utf8.acceptRanges", "internal/bytealg.MaxLen"], apart := false, laid := [("unicode/utf8.acceptRanges", laid_unicode_utf8_acceptRanges), ("unicode/utf8.first", laid_unicode_utf8_first)], narrowed := true }
def ReclogRewritesUptoSaid : Prop := reclogRewritesUptoRow.holds Tryz.pinned (OpenSpec.upto reclogRewritesSpec)

/-- 'bellowslaw05.ReclogSure', WHERE WHAT IT READS IS OF BULK AT MOST 1048576: true; the input reads as it did. -/
def reclogSureUptoRow : OpenClaim := { program := "ytononoakdebjeaagreatdoor", sum := "c605b3623754ae405d07233fdb4aa4181ea5755a07ea57a09bcc34643de28d1c", func := "bellows/bellowslaw05.ReclogSure", spec := "reclogSure", inPlace := ["internal/bytealg.IndexByteString", "internal/bytealg.IndexString", "internal/abi.NoEscape", "internal/bytealg.MakeNoZero", "maps.clone"], unfollowed := true, recurses := true, named := ["unicode/utf8.first", "unicode/utf8.acceptRanges", "internal/bytealg.MaxLen"], apart := false, laid := [("unicode/utf8.acceptRanges", laid_unicode_utf8_acceptRanges), ("unicode/utf8.first", laid_unicode_utf8_first)], narrowed := true }
def ReclogSureUptoSaid : Prop := reclogSureUptoRow.holds Tryz.pinned (OpenSpec.upto reclogSureSpec)

end Rows
end Go.Proofs.YtononoakdebjeaaGreatDoor
