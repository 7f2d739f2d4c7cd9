/-
  DERIVED. GIVEN WITH THE SEED: THE CARDS: each row of YtbojieeildhlcaaDoorRows.lean that lists a variable, with what it lists TIED to the program's text (the seventh form; the later family's looks); each row that meets fmt, with fmt's text TOLD by the authors' own Lean function (tested against real Go, not proved from fmt's source: count such statements apart). THE CARD IS WHAT COUNTS. Prove the row's statement (the work); the ties are given (YtbojieeildhlcaaDoorTie.lean); close each card by the builder's one call (the guide's Derived/Test/ToyasCard.lean, 'card_holds'). Laid BY PROGRAM, IN A SANDBOX (cutbox-door.mjs). By AI agents, Wed Nov 11 2026. No macro, syntax, notation, axiom, sorry.
-/
import Derived.Test.YtbojieeildhlcaaDoorRows
import GoSem.ClaimSeven
namespace Go.Proofs.YtbojieeildhlcaaDoor
namespace Rows

/-- THE TIED CARD OF 'supercargolaw16.PortEarliest'. -/
def portEarliestCard : Claim7 := { stood := { row := portEarliestRow, standIns := [], harness := (true, "e6fa729fe09c7f2a41eaf525ac5877b7341a817e87da4fb8cc4a27b3ac1f1a66"), looks := false }, kinds := [], alts := [], laidByText := true, laidKinds := [.data, .data, .data], laidTests := true, laidLooks := .later }
def PortEarliestCardSaid : Prop := Claim7.holds Tryd.pinned (.plain (OpenSpec.ofChange portEarliestSpec)) portEarliestCard

/-- THE TIED CARD OF 'supercargolaw16.PortSooner'. -/
def portSoonerCard : Claim7 := { stood := { row := portSoonerRow, standIns := [], harness := (true, "e6fa729fe09c7f2a41eaf525ac5877b7341a817e87da4fb8cc4a27b3ac1f1a66"), looks := false }, kinds := [], alts := [], laidByText := true, laidKinds := [.data, .data, .data], laidTests := true, laidLooks := .later }
def PortSoonerCardSaid : Prop := Claim7.holds Tryd.pinned (.plain (OpenSpec.ofChange portSoonerSpec)) portSoonerCard

/-- THE TIED CARD OF 'supercargolaw16.PortDelays'. -/
def portDelaysCard : Claim7 := { stood := { row := portDelaysRow, standIns := [], harness := (true, "e6fa729fe09c7f2a41eaf525ac5877b7341a817e87da4fb8cc4a27b3ac1f1a66"), looks := false }, kinds := [], alts := [], laidByText := true, laidKinds := [.data, .data, .data], laidTests := true, laidLooks := .later }
def PortDelaysCardSaid : Prop := Claim7.holds Tryd.pinned (.plain (OpenSpec.ofChange portDelaysSpec)) portDelaysCard

/-- THE TIED CARD OF 'supercargolaw16.PortAdds'. -/
def portAddsCard : Claim7 := { stood := { row := portAddsRow, standIns := [], harness := (true, "e6fa729fe09c7f2a41eaf525ac5877b7341a817e87da4fb8cc4a27b3ac1f1a66"), looks := false }, kinds := [], alts := [], laidByText := true, laidKinds := [.data, .data, .data], laidTests := true, laidLooks := .later }
def PortAddsCardSaid : Prop := Claim7.holds Tryd.pinned (.plain (OpenSpec.ofChange portAddsSpec)) portAddsCard

/-- THE SECOND FORM's CARD OF 'supercargolaw16.PortEarliest'. -/
def portEarliestUptoCard : Claim7 := { stood := { row := portEarliestUptoRow, standIns := [], harness := (true, "e6fa729fe09c7f2a41eaf525ac5877b7341a817e87da4fb8cc4a27b3ac1f1a66"), looks := false }, kinds := [], alts := [], laidByText := true, laidKinds := [.data, .data, .data], laidTests := true, laidLooks := .later }
def PortEarliestUptoCardSaid : Prop := Claim7.holds Tryd.pinned (.plain (OpenSpec.upto portEarliestSpec)) portEarliestUptoCard

/-- THE SECOND FORM's CARD OF 'supercargolaw16.PortSooner'. -/
def portSoonerUptoCard : Claim7 := { stood := { row := portSoonerUptoRow, standIns := [], harness := (true, "e6fa729fe09c7f2a41eaf525ac5877b7341a817e87da4fb8cc4a27b3ac1f1a66"), looks := false }, kinds := [], alts := [], laidByText := true, laidKinds := [.data, .data, .data], laidTests := true, laidLooks := .later }
def PortSoonerUptoCardSaid : Prop := Claim7.holds Tryd.pinned (.plain (OpenSpec.upto portSoonerSpec)) portSoonerUptoCard

/-- THE SECOND FORM's CARD OF 'supercargolaw16.PortDelays'. -/
def portDelaysUptoCard : Claim7 := { stood := { row := portDelaysUptoRow, standIns := [], harness := (true, "e6fa729fe09c7f2a41eaf525ac5877b7341a817e87da4fb8cc4a27b3ac1f1a66"), looks := false }, kinds := [], alts := [], laidByText := true, laidKinds := [.data, .data, .data], laidTests := true, laidLooks := .later }
def PortDelaysUptoCardSaid : Prop := Claim7.holds Tryd.pinned (.plain (OpenSpec.upto portDelaysSpec)) portDelaysUptoCard

/-- THE SECOND FORM's CARD OF 'supercargolaw16.PortAdds'. -/
def portAddsUptoCard : Claim7 := { stood := { row := portAddsUptoRow, standIns := [], harness := (true, "e6fa729fe09c7f2a41eaf525ac5877b7341a817e87da4fb8cc4a27b3ac1f1a66"), looks := false }, kinds := [], alts := [], laidByText := true, laidKinds := [.data, .data, .data], laidTests := true, laidLooks := .later }
def PortAddsUptoCardSaid : Prop := Claim7.holds Tryd.pinned (.plain (OpenSpec.upto portAddsSpec)) portAddsUptoCard
end Rows
end Go.Proofs.YtbojieeildhlcaaDoor
