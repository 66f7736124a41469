/-
  DERIVED. GIVEN WITH THE SEED: THE CARDS: each row of YtgejnljpdfjgpaaDoorRows.lean that lists a variable, with what it lists TIED to the program's text (the seventh form; the later family's looks); each row that meets fmt, with fmt's text TOLD by the authors' own Lean function (tested against real Go, not proved from fmt's source: count such statements apart). THE CARD IS WHAT COUNTS. Prove the row's statement (the work); the ties are given (YtgejnljpdfjgpaaDoorTie.lean); close each card by the builder's one call (the guide's Derived/Test/ToyasCard.lean, 'card_holds'). Laid BY PROGRAM, IN A SANDBOX (cutbox-door.mjs). By AI agents, Wed Nov 11 2026. No macro, syntax, notation, axiom, sorry.
-/
import Derived.Test.YtgejnljpdfjgpaaDoorRows
import GoSem.ClaimSeven
namespace Go.Proofs.YtgejnljpdfjgpaaDoor
namespace Rows

/-- THE TIED CARD OF 'arboristlaw16.PassNone'. -/
def passNoneCard : Claim7 := { stood := { row := passNoneRow, standIns := [], harness := (true, "9a16b7528bf509efa704e6f886fe82bfb3e59b7fb10c9046e8ebd63b33ead319"), looks := false }, kinds := [], alts := [], laidByText := true, laidKinds := [.data, .data, .data], laidTests := true, laidLooks := .later }
def PassNoneCardSaid : Prop := Claim7.holds Tryd.pinned (.plain (OpenSpec.ofChange passNoneSpec)) passNoneCard

/-- THE TIED CARD OF 'arboristlaw16.PassKeeps'. -/
def passKeepsCard : Claim7 := { stood := { row := passKeepsRow, standIns := [], harness := (true, "9a16b7528bf509efa704e6f886fe82bfb3e59b7fb10c9046e8ebd63b33ead319"), looks := false }, kinds := [], alts := [], laidByText := true, laidKinds := [.data, .data, .data], laidTests := true, laidLooks := .later }
def PassKeepsCardSaid : Prop := Claim7.holds Tryd.pinned (.plain (OpenSpec.ofChange passKeepsSpec)) passKeepsCard

/-- THE SECOND FORM's CARD OF 'arboristlaw16.PassNone'. -/
def passNoneUptoCard : Claim7 := { stood := { row := passNoneUptoRow, standIns := [], harness := (true, "9a16b7528bf509efa704e6f886fe82bfb3e59b7fb10c9046e8ebd63b33ead319"), looks := false }, kinds := [], alts := [], laidByText := true, laidKinds := [.data, .data, .data], laidTests := true, laidLooks := .later }
def PassNoneUptoCardSaid : Prop := Claim7.holds Tryd.pinned (.plain (OpenSpec.upto passNoneSpec)) passNoneUptoCard

/-- THE SECOND FORM's CARD OF 'arboristlaw16.PassKeeps'. -/
def passKeepsUptoCard : Claim7 := { stood := { row := passKeepsUptoRow, standIns := [], harness := (true, "9a16b7528bf509efa704e6f886fe82bfb3e59b7fb10c9046e8ebd63b33ead319"), looks := false }, kinds := [], alts := [], laidByText := true, laidKinds := [.data, .data, .data], laidTests := true, laidLooks := .later }
def PassKeepsUptoCardSaid : Prop := Claim7.holds Tryd.pinned (.plain (OpenSpec.upto passKeepsSpec)) passKeepsUptoCard
end Rows
end Go.Proofs.YtgejnljpdfjgpaaDoor
