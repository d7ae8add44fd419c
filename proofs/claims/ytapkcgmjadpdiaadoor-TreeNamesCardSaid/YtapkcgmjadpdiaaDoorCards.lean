/-
  DERIVED. GIVEN WITH THE SEED: THE CARDS: each row of YtapkcgmjadpdiaaDoorRows.lean that lists a variable, with what it lists TIED to the program's text (the seventh form; the later family's looks); each row that meets fmt, with fmt's text TOLD by the authors' own Lean function (tested against real Go, not proved from fmt's source: count such statements apart). THE CARD IS WHAT COUNTS. Prove the row's statement (the work); the ties are given (YtapkcgmjadpdiaaDoorTie.lean); close each card by the builder's one call (the guide's Derived/Test/ToyasCard.lean, 'card_holds'). Laid BY PROGRAM, IN A SANDBOX (cutbox-door.mjs). By AI agents, Wed Nov 11 2026. No macro, syntax, notation, axiom, sorry.
-/
import Derived.Test.YtapkcgmjadpdiaaDoorRows
import GoSem.ClaimSeven
namespace Go.Proofs.YtapkcgmjadpdiaaDoor
namespace Rows

/-- THE TIED CARD OF 'concentriclaw11.SdwNow'. -/
def sdwNowCard : Claim7 := { stood := { row := sdwNowRow, standIns := [], harness := (true, "c59d73fe81820924a381a9263e52fd9dcbb38d0f1003c0a6c4178a7c23260f44"), looks := false }, kinds := [], alts := [], laidByText := true, laidKinds := [.data, .pinned], laidTests := true, laidLooks := .later }
def SdwNowCardSaid : Prop := Claim7.holds Tryd.pinned (.plain (OpenSpec.ofChange sdwNowSpec)) sdwNowCard

/-- THE TIED CARD OF 'concentriclaw7.TreeDirs'. -/
def treeDirsCard : Claim7 := { stood := { row := treeDirsRow, standIns := [], harness := (true, "c59d73fe81820924a381a9263e52fd9dcbb38d0f1003c0a6c4178a7c23260f44"), looks := false }, kinds := [], alts := [], laidByText := true, laidKinds := [.data, .pinned], laidTests := true, laidLooks := .later }
def TreeDirsCardSaid : Prop := Claim7.holds Tryd.pinned (.plain (OpenSpec.ofChange treeDirsSpec)) treeDirsCard

/-- THE TIED CARD OF 'concentriclaw7.TreeNames'. -/
def treeNamesCard : Claim7 := { stood := { row := treeNamesRow, standIns := [], harness := (true, "c59d73fe81820924a381a9263e52fd9dcbb38d0f1003c0a6c4178a7c23260f44"), looks := false }, kinds := [], alts := [], laidByText := true, laidKinds := [.data, .pinned], laidTests := true, laidLooks := .later }
def TreeNamesCardSaid : Prop := Claim7.holds Tryd.pinned (.plain (OpenSpec.ofChange treeNamesSpec)) treeNamesCard

/-- THE SECOND FORM's CARD OF 'concentriclaw11.SdwNow'. -/
def sdwNowUptoCard : Claim7 := { stood := { row := sdwNowUptoRow, standIns := [], harness := (true, "c59d73fe81820924a381a9263e52fd9dcbb38d0f1003c0a6c4178a7c23260f44"), looks := false }, kinds := [], alts := [], laidByText := true, laidKinds := [.data, .pinned], laidTests := true, laidLooks := .later }
def SdwNowUptoCardSaid : Prop := Claim7.holds Tryd.pinned (.plain (OpenSpec.upto sdwNowSpec)) sdwNowUptoCard

/-- THE SECOND FORM's CARD OF 'concentriclaw7.TreeDirs'. -/
def treeDirsUptoCard : Claim7 := { stood := { row := treeDirsUptoRow, standIns := [], harness := (true, "c59d73fe81820924a381a9263e52fd9dcbb38d0f1003c0a6c4178a7c23260f44"), looks := false }, kinds := [], alts := [], laidByText := true, laidKinds := [.data, .pinned], laidTests := true, laidLooks := .later }
def TreeDirsUptoCardSaid : Prop := Claim7.holds Tryd.pinned (.plain (OpenSpec.upto treeDirsSpec)) treeDirsUptoCard

/-- THE SECOND FORM's CARD OF 'concentriclaw7.TreeNames'. -/
def treeNamesUptoCard : Claim7 := { stood := { row := treeNamesUptoRow, standIns := [], harness := (true, "c59d73fe81820924a381a9263e52fd9dcbb38d0f1003c0a6c4178a7c23260f44"), looks := false }, kinds := [], alts := [], laidByText := true, laidKinds := [.data, .pinned], laidTests := true, laidLooks := .later }
def TreeNamesUptoCardSaid : Prop := Claim7.holds Tryd.pinned (.plain (OpenSpec.upto treeNamesSpec)) treeNamesUptoCard
end Rows
end Go.Proofs.YtapkcgmjadpdiaaDoor
