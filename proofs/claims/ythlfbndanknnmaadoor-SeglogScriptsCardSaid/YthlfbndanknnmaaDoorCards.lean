/-
  DERIVED. GIVEN WITH THE SEED: THE CARDS: each row of YthlfbndanknnmaaDoorRows.lean that lists a variable, with what it lists TIED to the program's text (the seventh form; the later family's looks); each row that meets fmt, with fmt's text TOLD by the authors' own Lean function (tested against real Go, not proved from fmt's source: count such statements apart). THE CARD IS WHAT COUNTS. Prove the row's statement (the work); the ties are given (YthlfbndanknnmaaDoorTie.lean); close each card by the builder's one call (the guide's Derived/Test/ToyasCard.lean, 'card_holds'). Laid BY PROGRAM, IN A SANDBOX (cutbox-door.mjs). By AI agents, Wed Nov 11 2026. No macro, syntax, notation, axiom, sorry.
-/
import Derived.Test.YthlfbndanknnmaaDoorRows
import GoSem.ClaimSeven
namespace Go.Proofs.YthlfbndanknnmaaDoor
namespace Rows

/-- THE TIED CARD OF 'coraclelaw05.SeglogScripts'. -/
def seglogScriptsCard : Claim7 := { stood := { row := seglogScriptsRow, standIns := [], harness := (true, "571859073c5f3f5171e46306b58756e3997f9d0c844523be495ef5a9b05dfda9"), looks := false }, kinds := [], alts := [], laidByText := true, laidKinds := [.data, .pinned], laidTests := true, laidLooks := .later }
def SeglogScriptsCardSaid : Prop := Claim7.holds Tryd.pinned (.plain (OpenSpec.ofChange seglogScriptsSpec)) seglogScriptsCard

/-- THE TIED CARD OF 'coraclelaw05.SeglogNil'. -/
def seglogNilCard : Claim7 := { stood := { row := seglogNilRow, standIns := [], harness := (true, "571859073c5f3f5171e46306b58756e3997f9d0c844523be495ef5a9b05dfda9"), looks := false }, kinds := [], alts := [], laidByText := true, laidKinds := [.data, .pinned], laidTests := true, laidLooks := .later }
def SeglogNilCardSaid : Prop := Claim7.holds Tryd.pinned (.plain (OpenSpec.ofChange seglogNilSpec)) seglogNilCard

/-- THE TIED CARD OF 'coraclelaw05.SeglogFills'. -/
def seglogFillsCard : Claim7 := { stood := { row := seglogFillsRow, standIns := [], harness := (true, "571859073c5f3f5171e46306b58756e3997f9d0c844523be495ef5a9b05dfda9"), looks := false }, kinds := [], alts := [], laidByText := true, laidKinds := [.data, .pinned], laidTests := true, laidLooks := .later }
def SeglogFillsCardSaid : Prop := Claim7.holds Tryd.pinned (.plain (OpenSpec.ofChange seglogFillsSpec)) seglogFillsCard

/-- THE SECOND FORM's CARD OF 'coraclelaw05.SeglogScripts'. -/
def seglogScriptsUptoCard : Claim7 := { stood := { row := seglogScriptsUptoRow, standIns := [], harness := (true, "571859073c5f3f5171e46306b58756e3997f9d0c844523be495ef5a9b05dfda9"), looks := false }, kinds := [], alts := [], laidByText := true, laidKinds := [.data, .pinned], laidTests := true, laidLooks := .later }
def SeglogScriptsUptoCardSaid : Prop := Claim7.holds Tryd.pinned (.plain (OpenSpec.upto seglogScriptsSpec)) seglogScriptsUptoCard

/-- THE SECOND FORM's CARD OF 'coraclelaw05.SeglogNil'. -/
def seglogNilUptoCard : Claim7 := { stood := { row := seglogNilUptoRow, standIns := [], harness := (true, "571859073c5f3f5171e46306b58756e3997f9d0c844523be495ef5a9b05dfda9"), looks := false }, kinds := [], alts := [], laidByText := true, laidKinds := [.data, .pinned], laidTests := true, laidLooks := .later }
def SeglogNilUptoCardSaid : Prop := Claim7.holds Tryd.pinned (.plain (OpenSpec.upto seglogNilSpec)) seglogNilUptoCard

/-- THE SECOND FORM's CARD OF 'coraclelaw05.SeglogFills'. -/
def seglogFillsUptoCard : Claim7 := { stood := { row := seglogFillsUptoRow, standIns := [], harness := (true, "571859073c5f3f5171e46306b58756e3997f9d0c844523be495ef5a9b05dfda9"), looks := false }, kinds := [], alts := [], laidByText := true, laidKinds := [.data, .pinned], laidTests := true, laidLooks := .later }
def SeglogFillsUptoCardSaid : Prop := Claim7.holds Tryd.pinned (.plain (OpenSpec.upto seglogFillsSpec)) seglogFillsUptoCard
end Rows
end Go.Proofs.YthlfbndanknnmaaDoor
