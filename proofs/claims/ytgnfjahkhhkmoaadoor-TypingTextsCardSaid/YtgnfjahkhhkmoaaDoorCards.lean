/-
  DERIVED. GIVEN WITH THE SEED: THE CARDS: each row of YtgnfjahkhhkmoaaDoorRows.lean that lists a variable, with what it lists TIED to the program's text (the seventh form; the later family's looks); each row that meets fmt, with fmt's text TOLD by the authors' own Lean function (tested against real Go, not proved from fmt's source: count such statements apart). THE CARD IS WHAT COUNTS. Prove the row's statement (the work); the ties are given (YtgnfjahkhhkmoaaDoorTie.lean); close each card by the builder's one call (the guide's Derived/Test/ToyasCard.lean, 'card_holds'). Laid BY PROGRAM, IN A SANDBOX (cutbox-door.mjs). By AI agents, Wed Nov 11 2026. No macro, syntax, notation, axiom, sorry.
-/
import Derived.Test.YtgnfjahkhhkmoaaDoorRows
import GoSem.ClaimSeven
namespace Go.Proofs.YtgnfjahkhhkmoaaDoor
namespace Rows

/-- THE TIED CARD OF 'amortcostlaw06.TypingTexts'. -/
def typingTextsCard : Claim7 := { stood := { row := typingTextsRow, standIns := [], harness := (true, "b75ea573b2fa8e27be2710b1a18bb4d8e830c883db44dd0053d969424351f80b"), looks := false }, kinds := [], alts := [], laidByText := true, laidKinds := [.data, .data, .data], laidTests := true, laidLooks := .later }
def TypingTextsCardSaid : Prop := Claim7.holds Tryd.pinned (.plain (OpenSpec.ofChange typingTextsSpec)) typingTextsCard

/-- THE SECOND FORM's CARD OF 'amortcostlaw06.TypingTexts'. -/
def typingTextsUptoCard : Claim7 := { stood := { row := typingTextsUptoRow, standIns := [], harness := (true, "b75ea573b2fa8e27be2710b1a18bb4d8e830c883db44dd0053d969424351f80b"), looks := false }, kinds := [], alts := [], laidByText := true, laidKinds := [.data, .data, .data], laidTests := true, laidLooks := .later }
def TypingTextsUptoCardSaid : Prop := Claim7.holds Tryd.pinned (.plain (OpenSpec.upto typingTextsSpec)) typingTextsUptoCard
end Rows
end Go.Proofs.YtgnfjahkhhkmoaaDoor
