/-
  DERIVED. GIVEN WITH THE SEED: THE CARDS: each row of YtnadlnmclameiaaGreatDoorRows.lean that lists a variable, with what it lists TIED to the program's text (the seventh form; the later family's looks); each row that meets fmt, with fmt's text TOLD by the authors' own Lean function (tested against real Go, not proved from fmt's source: count such statements apart). THE CARD IS WHAT COUNTS. Prove the row's statement (the work); the ties are given (YtnadlnmclameiaaGreatDoorTie.lean); close each card by the builder's one call (the guide's Derived/Test/ToyasCard.lean, 'card_holds'). Laid BY PROGRAM, IN A SANDBOX (cutbox-door.mjs). By AI agents, Wed Nov 11 2026. No macro, syntax, notation, axiom, sorry.
-/
import Derived.Test.YtnadlnmclameiaaGreatDoorRows
import GoSem.ClaimSeven
namespace Go.Proofs.YtnadlnmclameiaaGreatDoor
namespace Rows

/-- THE TIED CARD OF 'cartularytop.TopSends'. -/
def topSendsCard : Claim7 := { stood := { row := topSendsRow, standIns := [], harness := (true, "f140c2c426dabc1834858a6540099a5713fecf6e567b8384573809aab8e662a8"), looks := false }, kinds := [], alts := [], laidByText := true, laidKinds := [.data, .data, .data], laidTests := true, laidLooks := .later }
def TopSendsCardSaid : Prop := Claim7.holds Tryz.pinned (.plain (OpenSpec.ofChange topSendsSpec)) topSendsCard

/-- THE TIED CARD OF 'cartularytop.TopStops'. -/
def topStopsCard : Claim7 := { stood := { row := topStopsRow, standIns := [], harness := (true, "f140c2c426dabc1834858a6540099a5713fecf6e567b8384573809aab8e662a8"), looks := false }, kinds := [], alts := [], laidByText := true, laidKinds := [.data, .data, .data], laidTests := true, laidLooks := .later }
def TopStopsCardSaid : Prop := Claim7.holds Tryz.pinned (.plain (OpenSpec.ofChange topStopsSpec)) topStopsCard

/-- THE SECOND FORM's CARD OF 'cartularytop.TopSends'. -/
def topSendsUptoCard : Claim7 := { stood := { row := topSendsUptoRow, standIns := [], harness := (true, "f140c2c426dabc1834858a6540099a5713fecf6e567b8384573809aab8e662a8"), looks := false }, kinds := [], alts := [], laidByText := true, laidKinds := [.data, .data, .data], laidTests := true, laidLooks := .later }
def TopSendsUptoCardSaid : Prop := Claim7.holds Tryz.pinned (.plain (OpenSpec.upto topSendsSpec)) topSendsUptoCard

/-- THE SECOND FORM's CARD OF 'cartularytop.TopStops'. -/
def topStopsUptoCard : Claim7 := { stood := { row := topStopsUptoRow, standIns := [], harness := (true, "f140c2c426dabc1834858a6540099a5713fecf6e567b8384573809aab8e662a8"), looks := false }, kinds := [], alts := [], laidByText := true, laidKinds := [.data, .data, .data], laidTests := true, laidLooks := .later }
def TopStopsUptoCardSaid : Prop := Claim7.holds Tryz.pinned (.plain (OpenSpec.upto topStopsSpec)) topStopsUptoCard
end Rows
end Go.Proofs.YtnadlnmclameiaaGreatDoor
