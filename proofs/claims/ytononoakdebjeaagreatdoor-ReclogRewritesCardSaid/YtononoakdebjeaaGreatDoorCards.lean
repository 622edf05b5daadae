/-
  DERIVED. GIVEN WITH THE SEED: THE CARDS: each row of YtononoakdebjeaaGreatDoorRows.lean that lists a variable, with what it lists TIED to the program's text (the seventh form; the later family's looks); each row that meets fmt, with fmt's text TOLD by the authors' own Lean function (tested against real Go, not proved from fmt's source: count such statements apart). THE CARD IS WHAT COUNTS. Prove the row's statement (the work); the ties are given (YtononoakdebjeaaGreatDoorTie.lean); close each card by the builder's one call (the guide's Derived/Test/ToyasCard.lean, 'card_holds'). Laid BY PROGRAM, IN A SANDBOX (cutbox-door.mjs). By AI agents, Wed Nov 11 2026. No macro, syntax, notation, axiom, sorry.
-/
import Derived.Test.YtononoakdebjeaaGreatDoorRows
import GoSem.ClaimSeven
namespace Go.Proofs.YtononoakdebjeaaGreatDoor
namespace Rows

/-- THE TIED CARD OF 'bellowslaw04.DiskSure'. -/
def diskSureCard : Claim7 := { stood := { row := diskSureRow, standIns := [], harness := (true, "2a927251a9ecf0f5ea12331e79b7f0c8c04b12bc97a77f90a335c2d9512e6b8c"), looks := true }, kinds := [], alts := [], laidByText := true, laidKinds := [.data, .pinned], laidTests := true, laidLooks := .later }
def DiskSureCardSaid : Prop := Claim7.holds Tryz.pinned (.plain (OpenSpec.ofChange diskSureSpec)) diskSureCard

/-- THE TIED CARD OF 'bellowslaw04.DiskTimes'. -/
def diskTimesCard : Claim7 := { stood := { row := diskTimesRow, standIns := [], harness := (true, "2a927251a9ecf0f5ea12331e79b7f0c8c04b12bc97a77f90a335c2d9512e6b8c"), looks := true }, kinds := [], alts := [], laidByText := true, laidKinds := [.data, .pinned], laidTests := true, laidLooks := .later }
def DiskTimesCardSaid : Prop := Claim7.holds Tryz.pinned (.plain (OpenSpec.ofChange diskTimesSpec)) diskTimesCard

/-- THE TIED CARD OF 'bellowslaw04.DiskNone'. -/
def diskNoneCard : Claim7 := { stood := { row := diskNoneRow, standIns := [], harness := (true, "2a927251a9ecf0f5ea12331e79b7f0c8c04b12bc97a77f90a335c2d9512e6b8c"), looks := true }, kinds := [], alts := [], laidByText := true, laidKinds := [.data, .pinned], laidTests := true, laidLooks := .later }
def DiskNoneCardSaid : Prop := Claim7.holds Tryz.pinned (.plain (OpenSpec.ofChange diskNoneSpec)) diskNoneCard

/-- THE TIED CARD OF 'bellowslaw05.ReclogSpare'. -/
def reclogSpareCard : Claim7 := { stood := { row := reclogSpareRow, standIns := [], harness := (true, "2a927251a9ecf0f5ea12331e79b7f0c8c04b12bc97a77f90a335c2d9512e6b8c"), looks := true }, kinds := [], alts := [], laidByText := true, laidKinds := [.data, .pinned], laidTests := true, laidLooks := .later }
def ReclogSpareCardSaid : Prop := Claim7.holds Tryz.pinned (.plain (OpenSpec.ofChange reclogSpareSpec)) reclogSpareCard

/-- THE TIED CARD OF 'bellowslaw05.ReclogRewrites'. -/
def reclogRewritesCard : Claim7 := { stood := { row := reclogRewritesRow, standIns := [], harness := (true, "2a927251a9ecf0f5ea12331e79b7f0c8c04b12bc97a77f90a335c2d9512e6b8c"), looks := true }, kinds := [], alts := [], laidByText := true, laidKinds := [.data, .pinned], laidTests := true, laidLooks := .later }
def ReclogRewritesCardSaid : Prop := Claim7.holds Tryz.pinned (.plain (OpenSpec.ofChange reclogRewritesSpec)) reclogRewritesCard

/-- THE TIED CARD OF 'bellowslaw05.ReclogSure'. -/
def reclogSureCard : Claim7 := { stood := { row := reclogSureRow, standIns := [], harness := (true, "2a927251a9ecf0f5ea12331e79b7f0c8c04b12bc97a77f90a335c2d9512e6b8c"), looks := true }, kinds := [], alts := [], laidByText := true, laidKinds := [.data, .pinned], laidTests := true, laidLooks := .later }
def ReclogSureCardSaid : Prop := Claim7.holds Tryz.pinned (.plain (OpenSpec.ofChange reclogSureSpec)) reclogSureCard

/-- THE SECOND FORM's CARD OF 'bellowslaw04.DiskSure'. -/
def diskSureUptoCard : Claim7 := { stood := { row := diskSureUptoRow, standIns := [], harness := (true, "2a927251a9ecf0f5ea12331e79b7f0c8c04b12bc97a77f90a335c2d9512e6b8c"), looks := true }, kinds := [], alts := [], laidByText := true, laidKinds := [.data, .pinned], laidTests := true, laidLooks := .later }
def DiskSureUptoCardSaid : Prop := Claim7.holds Tryz.pinned (.plain (OpenSpec.upto diskSureSpec)) diskSureUptoCard

/-- THE SECOND FORM's CARD OF 'bellowslaw04.DiskTimes'. -/
def diskTimesUptoCard : Claim7 := { stood := { row := diskTimesUptoRow, standIns := [], harness := (true, "2a927251a9ecf0f5ea12331e79b7f0c8c04b12bc97a77f90a335c2d9512e6b8c"), looks := true }, kinds := [], alts := [], laidByText := true, laidKinds := [.data, .pinned], laidTests := true, laidLooks := .later }
def DiskTimesUptoCardSaid : Prop := Claim7.holds Tryz.pinned (.plain (OpenSpec.upto diskTimesSpec)) diskTimesUptoCard

/-- THE SECOND FORM's CARD OF 'bellowslaw04.DiskNone'. -/
def diskNoneUptoCard : Claim7 := { stood := { row := diskNoneUptoRow, standIns := [], harness := (true, "2a927251a9ecf0f5ea12331e79b7f0c8c04b12bc97a77f90a335c2d9512e6b8c"), looks := true }, kinds := [], alts := [], laidByText := true, laidKinds := [.data, .pinned], laidTests := true, laidLooks := .later }
def DiskNoneUptoCardSaid : Prop := Claim7.holds Tryz.pinned (.plain (OpenSpec.upto diskNoneSpec)) diskNoneUptoCard

/-- THE SECOND FORM's CARD OF 'bellowslaw05.ReclogSpare'. -/
def reclogSpareUptoCard : Claim7 := { stood := { row := reclogSpareUptoRow, standIns := [], harness := (true, "2a927251a9ecf0f5ea12331e79b7f0c8c04b12bc97a77f90a335c2d9512e6b8c"), looks := true }, kinds := [], alts := [], laidByText := true, laidKinds := [.data, .pinned], laidTests := true, laidLooks := .later }
def ReclogSpareUptoCardSaid : Prop := Claim7.holds Tryz.pinned (.plain (OpenSpec.upto reclogSpareSpec)) reclogSpareUptoCard

/-- THE SECOND FORM's CARD OF 'bellowslaw05.ReclogRewrites'. -/
def reclogRewritesUptoCard : Claim7 := { stood := { row := reclogRewritesUptoRow, standIns := [], harness := (true, "2a927251a9ecf0f5ea12331e79b7f0c8c04b12bc97a77f90a335c2d9512e6b8c"), looks := true }, kinds := [], alts := [], laidByText := true, laidKinds := [.data, .pinned], laidTests := true, laidLooks := .later }
def ReclogRewritesUptoCardSaid : Prop := Claim7.holds Tryz.pinned (.plain (OpenSpec.upto reclogRewritesSpec)) reclogRewritesUptoCard

/-- THE SECOND FORM's CARD OF 'bellowslaw05.ReclogSure'. -/
def reclogSureUptoCard : Claim7 := { stood := { row := reclogSureUptoRow, standIns := [], harness := (true, "2a927251a9ecf0f5ea12331e79b7f0c8c04b12bc97a77f90a335c2d9512e6b8c"), looks := true }, kinds := [], alts := [], laidByText := true, laidKinds := [.data, .pinned], laidTests := true, laidLooks := .later }
def ReclogSureUptoCardSaid : Prop := Claim7.holds Tryz.pinned (.plain (OpenSpec.upto reclogSureSpec)) reclogSureUptoCard
end Rows
end Go.Proofs.YtononoakdebjeaaGreatDoor
