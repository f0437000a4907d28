/-
  DERIVED. GIVEN WITH THE SEED: THE CARDS: each row of YtglknnncpaggpaaDoorRows.lean that lists a variable, with what it lists TIED to the program's text (the seventh form; the later family's looks); each row that meets fmt, with fmt's text TOLD by the authors' own Lean function (tested against real Go, not proved from fmt's source: count such statements apart). THE CARD IS WHAT COUNTS. Prove the row's statement (the work); the ties are given (YtglknnncpaggpaaDoorTie.lean); close each card by the builder's one call (the guide's Derived/Test/ToyasCard.lean, 'card_holds'). Laid BY PROGRAM, IN A SANDBOX (cutbox-door.mjs). By AI agents, Wed Nov 11 2026. No macro, syntax, notation, axiom, sorry.
-/
import Derived.Test.YtglknnncpaggpaaDoorRows
import GoSem.ClaimSeven
namespace Go.Proofs.YtglknnncpaggpaaDoor
namespace Rows

/-- THE TIED CARD OF 'muntinlaw04.SyntaxRows'. -/
def syntaxRowsCard : Claim7 := { stood := { row := syntaxRowsRow, standIns := [], harness := (true, "9bf02de34487ef21885a55796066232193baba6ded05bee70b7981de068d3cc8"), looks := true }, kinds := [], alts := [], laidByText := true, laidKinds := [.handle], laidTests := true, laidLooks := .later }
def SyntaxRowsCardSaid : Prop := Claim7.holds Tryd.pinned (.plain (OpenSpec.ofChange syntaxRowsSpec)) syntaxRowsCard

/-- THE TIED CARD OF 'muntinlaw04.SyntaxNames'. -/
def syntaxNamesCard : Claim7 := { stood := { row := syntaxNamesRow, standIns := [], harness := (true, "9bf02de34487ef21885a55796066232193baba6ded05bee70b7981de068d3cc8"), looks := true }, kinds := [], alts := [], laidByText := true, laidKinds := [.handle], laidTests := true, laidLooks := .later }
def SyntaxNamesCardSaid : Prop := Claim7.holds Tryd.pinned (.plain (OpenSpec.ofChange syntaxNamesSpec)) syntaxNamesCard

/-- THE TIED CARD OF 'muntinlaw04.SyntaxSigns'. -/
def syntaxSignsCard : Claim7 := { stood := { row := syntaxSignsRow, standIns := [], harness := (true, "9bf02de34487ef21885a55796066232193baba6ded05bee70b7981de068d3cc8"), looks := true }, kinds := [], alts := [], laidByText := true, laidKinds := [.handle], laidTests := true, laidLooks := .later }
def SyntaxSignsCardSaid : Prop := Claim7.holds Tryd.pinned (.plain (OpenSpec.ofChange syntaxSignsSpec)) syntaxSignsCard

/-- THE TIED CARD OF 'muntinlaw04.SyntaxApart'. -/
def syntaxApartCard : Claim7 := { stood := { row := syntaxApartRow, standIns := [], harness := (true, "9bf02de34487ef21885a55796066232193baba6ded05bee70b7981de068d3cc8"), looks := true }, kinds := [], alts := [], laidByText := true, laidKinds := [.handle], laidTests := true, laidLooks := .later }
def SyntaxApartCardSaid : Prop := Claim7.holds Tryd.pinned (.plain (OpenSpec.ofChange syntaxApartSpec)) syntaxApartCard

/-- THE TIED CARD OF 'muntinlaw04.SyntaxNests'. -/
def syntaxNestsCard : Claim7 := { stood := { row := syntaxNestsRow, standIns := [], harness := (true, "9bf02de34487ef21885a55796066232193baba6ded05bee70b7981de068d3cc8"), looks := true }, kinds := [], alts := [], laidByText := true, laidKinds := [.handle], laidTests := true, laidLooks := .later }
def SyntaxNestsCardSaid : Prop := Claim7.holds Tryd.pinned (.plain (OpenSpec.ofChange syntaxNestsSpec)) syntaxNestsCard

/-- THE TIED CARD OF 'muntinlaw05.PrintBack'. -/
def printBackCard : Claim7 := { stood := { row := printBackRow, standIns := [], harness := (true, "9bf02de34487ef21885a55796066232193baba6ded05bee70b7981de068d3cc8"), looks := true }, kinds := [], alts := [], laidByText := true, laidKinds := [.handle], laidTests := true, laidLooks := .later }
def PrintBackCardSaid : Prop := Claim7.holds Tryd.pinned (.plain (OpenSpec.ofChange printBackSpec)) printBackCard

/-- THE TIED CARD OF 'muntinlaw05.PrintRules'. -/
def printRulesCard : Claim7 := { stood := { row := printRulesRow, standIns := [], harness := (true, "9bf02de34487ef21885a55796066232193baba6ded05bee70b7981de068d3cc8"), looks := true }, kinds := [], alts := [], laidByText := true, laidKinds := [.handle], laidTests := true, laidLooks := .later }
def PrintRulesCardSaid : Prop := Claim7.holds Tryd.pinned (.plain (OpenSpec.ofChange printRulesSpec)) printRulesCard

/-- THE TIED CARD OF 'muntinlaw05.PrintExprs'. -/
def printExprsCard : Claim7 := { stood := { row := printExprsRow, standIns := [], harness := (true, "9bf02de34487ef21885a55796066232193baba6ded05bee70b7981de068d3cc8"), looks := true }, kinds := [], alts := [], laidByText := true, laidKinds := [.handle], laidTests := true, laidLooks := .later }
def PrintExprsCardSaid : Prop := Claim7.holds Tryd.pinned (.plain (OpenSpec.ofChange printExprsSpec)) printExprsCard

/-- THE SECOND FORM's CARD OF 'muntinlaw04.SyntaxRows'. -/
def syntaxRowsUptoCard : Claim7 := { stood := { row := syntaxRowsUptoRow, standIns := [], harness := (true, "9bf02de34487ef21885a55796066232193baba6ded05bee70b7981de068d3cc8"), looks := true }, kinds := [], alts := [], laidByText := true, laidKinds := [.handle], laidTests := true, laidLooks := .later }
def SyntaxRowsUptoCardSaid : Prop := Claim7.holds Tryd.pinned (.plain (OpenSpec.upto syntaxRowsSpec)) syntaxRowsUptoCard

/-- THE SECOND FORM's CARD OF 'muntinlaw04.SyntaxNames'. -/
def syntaxNamesUptoCard : Claim7 := { stood := { row := syntaxNamesUptoRow, standIns := [], harness := (true, "9bf02de34487ef21885a55796066232193baba6ded05bee70b7981de068d3cc8"), looks := true }, kinds := [], alts := [], laidByText := true, laidKinds := [.handle], laidTests := true, laidLooks := .later }
def SyntaxNamesUptoCardSaid : Prop := Claim7.holds Tryd.pinned (.plain (OpenSpec.upto syntaxNamesSpec)) syntaxNamesUptoCard

/-- THE SECOND FORM's CARD OF 'muntinlaw04.SyntaxSigns'. -/
def syntaxSignsUptoCard : Claim7 := { stood := { row := syntaxSignsUptoRow, standIns := [], harness := (true, "9bf02de34487ef21885a55796066232193baba6ded05bee70b7981de068d3cc8"), looks := true }, kinds := [], alts := [], laidByText := true, laidKinds := [.handle], laidTests := true, laidLooks := .later }
def SyntaxSignsUptoCardSaid : Prop := Claim7.holds Tryd.pinned (.plain (OpenSpec.upto syntaxSignsSpec)) syntaxSignsUptoCard

/-- THE SECOND FORM's CARD OF 'muntinlaw04.SyntaxApart'. -/
def syntaxApartUptoCard : Claim7 := { stood := { row := syntaxApartUptoRow, standIns := [], harness := (true, "9bf02de34487ef21885a55796066232193baba6ded05bee70b7981de068d3cc8"), looks := true }, kinds := [], alts := [], laidByText := true, laidKinds := [.handle], laidTests := true, laidLooks := .later }
def SyntaxApartUptoCardSaid : Prop := Claim7.holds Tryd.pinned (.plain (OpenSpec.upto syntaxApartSpec)) syntaxApartUptoCard

/-- THE SECOND FORM's CARD OF 'muntinlaw04.SyntaxNests'. -/
def syntaxNestsUptoCard : Claim7 := { stood := { row := syntaxNestsUptoRow, standIns := [], harness := (true, "9bf02de34487ef21885a55796066232193baba6ded05bee70b7981de068d3cc8"), looks := true }, kinds := [], alts := [], laidByText := true, laidKinds := [.handle], laidTests := true, laidLooks := .later }
def SyntaxNestsUptoCardSaid : Prop := Claim7.holds Tryd.pinned (.plain (OpenSpec.upto syntaxNestsSpec)) syntaxNestsUptoCard

/-- THE SECOND FORM's CARD OF 'muntinlaw05.PrintBack'. -/
def printBackUptoCard : Claim7 := { stood := { row := printBackUptoRow, standIns := [], harness := (true, "9bf02de34487ef21885a55796066232193baba6ded05bee70b7981de068d3cc8"), looks := true }, kinds := [], alts := [], laidByText := true, laidKinds := [.handle], laidTests := true, laidLooks := .later }
def PrintBackUptoCardSaid : Prop := Claim7.holds Tryd.pinned (.plain (OpenSpec.upto printBackSpec)) printBackUptoCard

/-- THE SECOND FORM's CARD OF 'muntinlaw05.PrintRules'. -/
def printRulesUptoCard : Claim7 := { stood := { row := printRulesUptoRow, standIns := [], harness := (true, "9bf02de34487ef21885a55796066232193baba6ded05bee70b7981de068d3cc8"), looks := true }, kinds := [], alts := [], laidByText := true, laidKinds := [.handle], laidTests := true, laidLooks := .later }
def PrintRulesUptoCardSaid : Prop := Claim7.holds Tryd.pinned (.plain (OpenSpec.upto printRulesSpec)) printRulesUptoCard

/-- THE SECOND FORM's CARD OF 'muntinlaw05.PrintExprs'. -/
def printExprsUptoCard : Claim7 := { stood := { row := printExprsUptoRow, standIns := [], harness := (true, "9bf02de34487ef21885a55796066232193baba6ded05bee70b7981de068d3cc8"), looks := true }, kinds := [], alts := [], laidByText := true, laidKinds := [.handle], laidTests := true, laidLooks := .later }
def PrintExprsUptoCardSaid : Prop := Claim7.holds Tryd.pinned (.plain (OpenSpec.upto printExprsSpec)) printExprsUptoCard
end Rows
end Go.Proofs.YtglknnncpaggpaaDoor
