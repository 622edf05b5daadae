/-
  DERIVED. GIVEN WITH THE SEED: THE CARDS: each row of YtononoakdebjeaaDoorRows.lean that lists a variable, with what it lists TIED to the program's text (the seventh form; the later family's looks); each row that meets fmt, with fmt's text TOLD by the authors' own Lean function (tested against real Go, not proved from fmt's source: count such statements apart). THE CARD IS WHAT COUNTS. Prove the row's statement (the work); the ties are given (YtononoakdebjeaaDoorTie.lean); close each card by the builder's one call (the guide's Derived/Test/ToyasCard.lean, 'card_holds'). Laid BY PROGRAM, IN A SANDBOX (cutbox-door.mjs). By AI agents, Wed Nov 11 2026. No macro, syntax, notation, axiom, sorry.
-/
import Derived.Test.YtononoakdebjeaaDoorRows
import GoSem.ClaimSeven
namespace Go.Proofs.YtononoakdebjeaaDoor
namespace Rows

/-- THE TIED CARD OF 'bellowslaw05.ReclogOpens'. -/
def reclogOpensCard : Claim7 := { stood := { row := reclogOpensRow, standIns := [], harness := (true, "337fccfe727d82d6d03d3b97c45aa4983b5fe816d0963e5a6f0f34996c494079"), looks := true }, kinds := [], alts := [], laidByText := true, laidKinds := [.data, .pinned], laidTests := true, laidLooks := .later }
def ReclogOpensCardSaid : Prop := Claim7.holds Tryd.pinned (.plain (OpenSpec.ofChange reclogOpensSpec)) reclogOpensCard

/-- THE TIED CARD OF 'bellowslaw05.ReclogNone'. -/
def reclogNoneCard : Claim7 := { stood := { row := reclogNoneRow, standIns := [], harness := (true, "337fccfe727d82d6d03d3b97c45aa4983b5fe816d0963e5a6f0f34996c494079"), looks := true }, kinds := [], alts := [], laidByText := true, laidKinds := [.data, .pinned], laidTests := true, laidLooks := .later }
def ReclogNoneCardSaid : Prop := Claim7.holds Tryd.pinned (.plain (OpenSpec.ofChange reclogNoneSpec)) reclogNoneCard

/-- THE TIED CARD OF 'bellowslaw04.DiskPrefix'. -/
def diskPrefixCard : Claim7 := { stood := { row := diskPrefixRow, standIns := [], harness := (true, "337fccfe727d82d6d03d3b97c45aa4983b5fe816d0963e5a6f0f34996c494079"), looks := true }, kinds := [], alts := [], laidByText := true, laidKinds := [.data, .pinned], laidTests := true, laidLooks := .later }
def DiskPrefixCardSaid : Prop := Claim7.holds Tryd.pinned (.plain (OpenSpec.ofChange diskPrefixSpec)) diskPrefixCard

/-- THE TIED CARD OF 'bellowslaw04.DiskRenames'. -/
def diskRenamesCard : Claim7 := { stood := { row := diskRenamesRow, standIns := [], harness := (true, "337fccfe727d82d6d03d3b97c45aa4983b5fe816d0963e5a6f0f34996c494079"), looks := true }, kinds := [], alts := [], laidByText := true, laidKinds := [.data, .pinned], laidTests := true, laidLooks := .later }
def DiskRenamesCardSaid : Prop := Claim7.holds Tryd.pinned (.plain (OpenSpec.ofChange diskRenamesSpec)) diskRenamesCard

/-- THE TIED CARD OF 'bellowslaw04.DiskArmed'. -/
def diskArmedCard : Claim7 := { stood := { row := diskArmedRow, standIns := [], harness := (true, "337fccfe727d82d6d03d3b97c45aa4983b5fe816d0963e5a6f0f34996c494079"), looks := true }, kinds := [], alts := [], laidByText := true, laidKinds := [.data, .pinned], laidTests := true, laidLooks := .later }
def DiskArmedCardSaid : Prop := Claim7.holds Tryd.pinned (.plain (OpenSpec.ofChange diskArmedSpec)) diskArmedCard

/-- THE SECOND FORM's CARD OF 'bellowslaw05.ReclogOpens'. -/
def reclogOpensUptoCard : Claim7 := { stood := { row := reclogOpensUptoRow, standIns := [], harness := (true, "337fccfe727d82d6d03d3b97c45aa4983b5fe816d0963e5a6f0f34996c494079"), looks := true }, kinds := [], alts := [], laidByText := true, laidKinds := [.data, .pinned], laidTests := true, laidLooks := .later }
def ReclogOpensUptoCardSaid : Prop := Claim7.holds Tryd.pinned (.plain (OpenSpec.upto reclogOpensSpec)) reclogOpensUptoCard

/-- THE SECOND FORM's CARD OF 'bellowslaw05.ReclogNone'. -/
def reclogNoneUptoCard : Claim7 := { stood := { row := reclogNoneUptoRow, standIns := [], harness := (true, "337fccfe727d82d6d03d3b97c45aa4983b5fe816d0963e5a6f0f34996c494079"), looks := true }, kinds := [], alts := [], laidByText := true, laidKinds := [.data, .pinned], laidTests := true, laidLooks := .later }
def ReclogNoneUptoCardSaid : Prop := Claim7.holds Tryd.pinned (.plain (OpenSpec.upto reclogNoneSpec)) reclogNoneUptoCard

/-- THE SECOND FORM's CARD OF 'bellowslaw04.DiskPrefix'. -/
def diskPrefixUptoCard : Claim7 := { stood := { row := diskPrefixUptoRow, standIns := [], harness := (true, "337fccfe727d82d6d03d3b97c45aa4983b5fe816d0963e5a6f0f34996c494079"), looks := true }, kinds := [], alts := [], laidByText := true, laidKinds := [.data, .pinned], laidTests := true, laidLooks := .later }
def DiskPrefixUptoCardSaid : Prop := Claim7.holds Tryd.pinned (.plain (OpenSpec.upto diskPrefixSpec)) diskPrefixUptoCard

/-- THE SECOND FORM's CARD OF 'bellowslaw04.DiskRenames'. -/
def diskRenamesUptoCard : Claim7 := { stood := { row := diskRenamesUptoRow, standIns := [], harness := (true, "337fccfe727d82d6d03d3b97c45aa4983b5fe816d0963e5a6f0f34996c494079"), looks := true }, kinds := [], alts := [], laidByText := true, laidKinds := [.data, .pinned], laidTests := true, laidLooks := .later }
def DiskRenamesUptoCardSaid : Prop := Claim7.holds Tryd.pinned (.plain (OpenSpec.upto diskRenamesSpec)) diskRenamesUptoCard

/-- THE SECOND FORM's CARD OF 'bellowslaw04.DiskArmed'. -/
def diskArmedUptoCard : Claim7 := { stood := { row := diskArmedUptoRow, standIns := [], harness := (true, "337fccfe727d82d6d03d3b97c45aa4983b5fe816d0963e5a6f0f34996c494079"), looks := true }, kinds := [], alts := [], laidByText := true, laidKinds := [.data, .pinned], laidTests := true, laidLooks := .later }
def DiskArmedUptoCardSaid : Prop := Claim7.holds Tryd.pinned (.plain (OpenSpec.upto diskArmedSpec)) diskArmedUptoCard
end Rows
end Go.Proofs.YtononoakdebjeaaDoor
