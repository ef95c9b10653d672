/-
  NARROWER THAN 'FOR EVERY INPUT', by the rows' own cells (each row's printed sentence says how): TypingFields: loops · TypingMatched: loops.
  DERIVED. THE GIVEN ROWS OF THIS SEAT. 2 by the template 'for every input the law returns true; each argument reads behind the call as it read before'; 0 by the template 'total and deterministic' (their statements: YtgnfjahkhhkmoaaTotals.lean).
  GIVEN WITH THE SEED: the statements are not yours to turn. If you find one false, say at which input.
  Laid BY PROGRAM, IN A SANDBOX (cutbox-rows.mjs): the forced cells as the released guide's own fill.sh prints them over the translation 8350000ea7e48383… (all of the seat's roots in one cut). By AI agents, Wed Nov 11 2026. No macro, syntax, notation, axiom, sorry.
-/
import Derived.Test.YtgnfjahkhhkmoaaChecked
import GoSem.Claim
import GoSem.ClaimJoined
import GoSem.ClaimMapViews
import Derived.JoinedTies
import Derived.KernelRfl
namespace Go.Proofs.Ytgnfjahkhhkmoaa
/- THE CELL 'sum', in the pinned program and in every row, IS THE sha256 OF THE DUMP (.gsa) THAT YtgnfjahkhhkmoaaProg.lean LOADS. Nothing in Lean hashes anything: it is a label: what it is worth is what the hold of that sum in a sandbox is worth. -/
noncomputable def Try.pinned : Pinned := { name := "ytgnfjahkhhkmoaa", sum := "8350000ea7e48383a04aed960b5f9ffee9862adcda250650142edddc9b6722ba", checked := Try.checked }
namespace Rows
def none {H : Type} : Left H := { results := [], args := [] }

/-- 'amortcostlaw06.TypingFields': WHATEVER THE INPUT: true; the input reads as it did. -/
def typingFieldsSpec : ChangeSpec := { name := "typingFields", fn := fun _ => fun
  | [d1, d2, d3] => { results := [.lit (.bool true)], args := [d1, d2, d3] }
  | _ => none }
def typingFieldsRow : OpenClaim := { program := "ytgnfjahkhhkmoaa", sum := "8350000ea7e48383a04aed960b5f9ffee9862adcda250650142edddc9b6722ba", func := "amortcost/amortcostlaw06.TypingFields", spec := "typingFields", recurses := true, loops := true, apart := false }
def TypingFieldsSaid : Prop := typingFieldsRow.holds Try.pinned (OpenSpec.ofChange typingFieldsSpec)

/-- ITS FALSE NEIGHBOUR: 'it returns false'. Refute it at one input. -/
def typingFieldsWrong : ChangeSpec := { name := "typingFields", fn := fun _ => fun
  | [d1, d2, d3] => { results := [.lit (.bool false)], args := [d1, d2, d3] }
  | _ => none }
def TypingFieldsWrongFalsely : Prop := typingFieldsRow.holds Try.pinned (OpenSpec.ofChange typingFieldsWrong)

/-- 'amortcostlaw06.TypingMatched': WHATEVER THE INPUT: true; the input reads as it did. -/
def typingMatchedSpec : ChangeSpec := { name := "typingMatched", fn := fun _ => fun
  | [d1, d2, d3] => { results := [.lit (.bool true)], args := [d1, d2, d3] }
  | _ => none }
def typingMatchedRow : OpenClaim := { program := "ytgnfjahkhhkmoaa", sum := "8350000ea7e48383a04aed960b5f9ffee9862adcda250650142edddc9b6722ba", func := "amortcost/amortcostlaw06.TypingMatched", spec := "typingMatched", unfollowed := true, recurses := true, loops := true, apart := false }
def TypingMatchedSaid : Prop := typingMatchedRow.holds Try.pinned (OpenSpec.ofChange typingMatchedSpec)

/-- ITS FALSE NEIGHBOUR: 'it returns false'. Refute it at one input. -/
def typingMatchedWrong : ChangeSpec := { name := "typingMatched", fn := fun _ => fun
  | [d1, d2, d3] => { results := [.lit (.bool false)], args := [d1, d2, d3] }
  | _ => none }
def TypingMatchedWrongFalsely : Prop := typingMatchedRow.holds Try.pinned (OpenSpec.ofChange typingMatchedWrong)

/- THE SECOND FORM. 'bulk': how many values and letters a reading holds, each counted each time it is reached (what is shared counts as often as it is met; a slice's spare places count too). A statement '..UptoSaid' is the law's where the arguments, and the package variables that the reading takes, are together of bulk at most 1048576: NARROWER than '..Said'. Prove '..Said' where nothing that the law and all that it calls make is longer than what came in: it says more and counts as full. Else prove '..UptoSaid'. A law counts once. -/
mutual
def uptoBulk {H : Type} : DataW H → Nat
  | .lit (.string bytes) => bytes.length + 1
  | .lit _ => 1
  | .nil => 1
  | .ptr d => uptoBulk d + 1
  | .slice elems spare => uptoBulkAll elems + uptoBulkAll spare + 1
  | .agg parts => uptoBulkAll parts + 1
  | .iface _ d => uptoBulk d + 1
  | .map entries => uptoBulkEntries entries + 1
  | .held _ => 1
def uptoBulkAll {H : Type} : List (DataW H) → Nat
  | [] => 0
  | d :: r => uptoBulk d + uptoBulkAll r
def uptoBulkEntries {H : Type} : List (Lit × DataW H) → Nat
  | [] => 0
  | x :: r => uptoBulkEntry x + uptoBulkEntries r
def uptoBulkEntry {H : Type} : Lit × DataW H → Nat
  | (.string bytes, d) => bytes.length + uptoBulk d + 1
  | (_, d) => uptoBulk d + 1
 end
def uptoSmall : (H : Type) → List (DataW H) → Bool := fun _ ds => decide (uptoBulkAll ds ≤ 1048576)
def OpenSpec.upto (s : _root_.Go.ChangeSpec) : _root_.Go.OpenSpec := { _root_.Go.OpenSpec.ofChange s with cond := some uptoSmall }

/-- 'amortcostlaw06.TypingFields', WHERE WHAT IT READS IS OF BULK AT MOST 1048576: true; the input reads as it did. -/
def typingFieldsUptoRow : OpenClaim := { program := "ytgnfjahkhhkmoaa", sum := "8350000ea7e48383a04aed960b5f9ffee9862adcda250650142edddc9b6722ba", func := "amortcost/amortcostlaw06.TypingFields", spec := "typingFields", recurses := true, loops := true, apart := false, narrowed := true }
def TypingFieldsUptoSaid : Prop := typingFieldsUptoRow.holds Try.pinned (OpenSpec.upto typingFieldsSpec)

/-- 'amortcostlaw06.TypingMatched', WHERE WHAT IT READS IS OF BULK AT MOST 1048576: true; the input reads as it did. -/
def typingMatchedUptoRow : OpenClaim := { program := "ytgnfjahkhhkmoaa", sum := "8350000ea7e48383a04aed960b5f9ffee9862adcda250650142edddc9b6722ba", func := "amortcost/amortcostlaw06.TypingMatched", spec := "typingMatched", unfollowed := true, recurses := true, loops := true, apart := false, narrowed := true }
def TypingMatchedUptoSaid : Prop := typingMatchedUptoRow.holds Try.pinned (OpenSpec.upto typingMatchedSpec)

end Rows
end Go.Proofs.Ytgnfjahkhhkmoaa
