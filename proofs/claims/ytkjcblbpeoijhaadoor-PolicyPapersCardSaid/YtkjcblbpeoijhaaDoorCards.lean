/-
  DERIVED. GIVEN WITH THE SEED: THE CARDS: each row of YtkjcblbpeoijhaaDoorRows.lean that lists a variable, with what it lists TIED to the program's text (the seventh form; the later family's looks); each row that meets fmt, with fmt's text TOLD by the authors' own Lean function (tested against real Go, not proved from fmt's source: count such statements apart). THE CARD IS WHAT COUNTS. Prove the row's statement (the work); the ties are given (YtkjcblbpeoijhaaDoorTie.lean); close each card by the builder's one call (the guide's Derived/Test/ToyasCard.lean, 'card_holds'). Laid BY PROGRAM, IN A SANDBOX (cutbox-door.mjs). By AI agents, Wed Nov 11 2026. No macro, syntax, notation, axiom, sorry.
-/
import Derived.Test.YtkjcblbpeoijhaaDoorRows
import GoSem.ClaimSeven
namespace Go.Proofs.YtkjcblbpeoijhaaDoor
namespace Rows

/-- THE TIED CARD OF 'supercargolaw42.PolicyPapers'. -/
def policyPapersCard : Claim7 := { stood := { row := policyPapersRow, standIns := [], harness := (true, "28dd4837989fd271ceb1f0c391a88e8c8b8036ce367339ca993659bbc83a761d"), looks := false }, kinds := [], alts := [], laidByText := true, laidKinds := [.data, .data, .data], laidTests := true, laidLooks := .later }
def PolicyPapersCardSaid : Prop := Claim7.holds Tryd.pinned (.plain (OpenSpec.ofChange policyPapersSpec)) policyPapersCard

/-- THE SECOND FORM's CARD OF 'supercargolaw42.PolicyPapers'. -/
def policyPapersUptoCard : Claim7 := { stood := { row := policyPapersUptoRow, standIns := [], harness := (true, "28dd4837989fd271ceb1f0c391a88e8c8b8036ce367339ca993659bbc83a761d"), looks := false }, kinds := [], alts := [], laidByText := true, laidKinds := [.data, .data, .data], laidTests := true, laidLooks := .later }
def PolicyPapersUptoCardSaid : Prop := Claim7.holds Tryd.pinned (.plain (OpenSpec.upto policyPapersSpec)) policyPapersUptoCard
end Rows
end Go.Proofs.YtkjcblbpeoijhaaDoor
