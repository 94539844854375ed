/-
  DERIVED. GIVEN WITH THE SEED: THE CARDS: each row of YtjllmamblkejjaaGreatDoorRows.lean that lists a variable, with what it lists TIED to the program's text (the seventh form; the later family's looks); each row that meets fmt, with fmt's text TOLD by the authors' own Lean function (tested against real Go, not proved from fmt's source: count such statements apart). THE CARD IS WHAT COUNTS. Prove the row's statement (the work); the ties are given (YtjllmamblkejjaaGreatDoorTie.lean); close each card by the builder's one call (the guide's Derived/Test/ToyasCard.lean, 'card_holds'). Laid BY PROGRAM, IN A SANDBOX (cutbox-door.mjs). By AI agents, Wed Nov 11 2026. No macro, syntax, notation, axiom, sorry.
-/
import Derived.Test.YtjllmamblkejjaaGreatDoorRows
import GoSem.ClaimSeven
namespace Go.Proofs.YtjllmamblkejjaaGreatDoor
namespace Rows

/-- THE TIED CARD OF 'pidginlaw4.ArithHalf'. -/
def arithHalfCard : Claim7 := { stood := { row := arithHalfRow, standIns := [], harness := (true, "30e0b9793e9bc71d1783dff3583ad4ed1c026c8d6159c2d4c2251d60be95b170"), looks := true }, kinds := [], alts := [], laidByText := true, laidKinds := [.handle, .listed, .data, .sentinel, .sentinel, .sentinel, .sentinel, .sentinel, .sentinel, .sentinel, .sentinel, .sentinel, .sentinel, .sentinel, .sentinel, .sentinel, .sentinel, .sentinel, .sentinel, .sentinel, .sentinel, .sentinel, .sentinel, .sentinel], laidTests := true, laidLooks := .later }
def ArithHalfCardSaid : Prop := Claim7.holds Tryz.pinned (.plain (OpenSpec.ofChange arithHalfSpec)) arithHalfCard

/-- THE TIED CARD OF 'pidginlaw4.ArithSets'. -/
def arithSetsCard : Claim7 := { stood := { row := arithSetsRow, standIns := [], harness := (true, "30e0b9793e9bc71d1783dff3583ad4ed1c026c8d6159c2d4c2251d60be95b170"), looks := true }, kinds := [], alts := [], laidByText := true, laidKinds := [.handle, .listed, .data, .sentinel, .sentinel, .sentinel, .sentinel, .sentinel, .sentinel, .sentinel, .sentinel, .sentinel, .sentinel, .sentinel, .sentinel, .sentinel, .sentinel, .sentinel, .sentinel, .sentinel, .sentinel, .sentinel, .sentinel, .sentinel], laidTests := true, laidLooks := .later }
def ArithSetsCardSaid : Prop := Claim7.holds Tryz.pinned (.plain (OpenSpec.ofChange arithSetsSpec)) arithSetsCard

/-- THE TIED CARD OF 'pidginlaw4.ArithNil'. -/
def arithNilCard : Claim7 := { stood := { row := arithNilRow, standIns := [], harness := (true, "30e0b9793e9bc71d1783dff3583ad4ed1c026c8d6159c2d4c2251d60be95b170"), looks := true }, kinds := [], alts := [], laidByText := true, laidKinds := [.handle, .listed, .data, .sentinel, .sentinel, .sentinel, .sentinel, .sentinel, .sentinel, .sentinel, .sentinel, .sentinel, .sentinel, .sentinel, .sentinel, .sentinel, .sentinel, .sentinel, .sentinel, .sentinel, .sentinel, .sentinel, .sentinel, .sentinel], laidTests := true, laidLooks := .later }
def ArithNilCardSaid : Prop := Claim7.holds Tryz.pinned (.plain (OpenSpec.ofChange arithNilSpec)) arithNilCard

/-- THE TIED CARD OF 'pidginlaw4.VarsKeep'. -/
def varsKeepCard : Claim7 := { stood := { row := varsKeepRow, standIns := [], harness := (true, "30e0b9793e9bc71d1783dff3583ad4ed1c026c8d6159c2d4c2251d60be95b170"), looks := true }, kinds := [], alts := [], laidByText := true, laidKinds := [.handle, .listed, .data, .sentinel, .sentinel, .sentinel, .sentinel, .sentinel, .sentinel, .sentinel, .sentinel, .sentinel, .sentinel, .sentinel, .sentinel, .sentinel, .sentinel, .sentinel, .sentinel, .sentinel, .sentinel, .sentinel, .sentinel, .sentinel], laidTests := true, laidLooks := .later }
def VarsKeepCardSaid : Prop := Claim7.holds Tryz.pinned (.plain (OpenSpec.ofChange varsKeepSpec)) varsKeepCard

/-- THE TIED CARD OF 'pidginlaw4.ArithTwice'. -/
def arithTwiceCard : Claim7 := { stood := { row := arithTwiceRow, standIns := [], harness := (true, "30e0b9793e9bc71d1783dff3583ad4ed1c026c8d6159c2d4c2251d60be95b170"), looks := true }, kinds := [], alts := [], laidByText := true, laidKinds := [.handle, .listed, .data, .sentinel, .sentinel, .sentinel, .sentinel, .sentinel, .sentinel, .sentinel, .sentinel, .sentinel, .sentinel, .sentinel, .sentinel, .sentinel, .sentinel, .sentinel, .sentinel, .sentinel, .sentinel, .sentinel, .sentinel, .sentinel], laidTests := true, laidLooks := .later }
def ArithTwiceCardSaid : Prop := Claim7.holds Tryz.pinned (.plain (OpenSpec.ofChange arithTwiceSpec)) arithTwiceCard

/-- THE SECOND FORM's CARD OF 'pidginlaw4.ArithHalf'. -/
def arithHalfUptoCard : Claim7 := { stood := { row := arithHalfUptoRow, standIns := [], harness := (true, "30e0b9793e9bc71d1783dff3583ad4ed1c026c8d6159c2d4c2251d60be95b170"), looks := true }, kinds := [], alts := [], laidByText := true, laidKinds := [.handle, .listed, .data, .sentinel, .sentinel, .sentinel, .sentinel, .sentinel, .sentinel, .sentinel, .sentinel, .sentinel, .sentinel, .sentinel, .sentinel, .sentinel, .sentinel, .sentinel, .sentinel, .sentinel, .sentinel, .sentinel, .sentinel, .sentinel], laidTests := true, laidLooks := .later }
def ArithHalfUptoCardSaid : Prop := Claim7.holds Tryz.pinned (.plain (OpenSpec.upto arithHalfSpec)) arithHalfUptoCard

/-- THE SECOND FORM's CARD OF 'pidginlaw4.ArithSets'. -/
def arithSetsUptoCard : Claim7 := { stood := { row := arithSetsUptoRow, standIns := [], harness := (true, "30e0b9793e9bc71d1783dff3583ad4ed1c026c8d6159c2d4c2251d60be95b170"), looks := true }, kinds := [], alts := [], laidByText := true, laidKinds := [.handle, .listed, .data, .sentinel, .sentinel, .sentinel, .sentinel, .sentinel, .sentinel, .sentinel, .sentinel, .sentinel, .sentinel, .sentinel, .sentinel, .sentinel, .sentinel, .sentinel, .sentinel, .sentinel, .sentinel, .sentinel, .sentinel, .sentinel], laidTests := true, laidLooks := .later }
def ArithSetsUptoCardSaid : Prop := Claim7.holds Tryz.pinned (.plain (OpenSpec.upto arithSetsSpec)) arithSetsUptoCard

/-- THE SECOND FORM's CARD OF 'pidginlaw4.ArithNil'. -/
def arithNilUptoCard : Claim7 := { stood := { row := arithNilUptoRow, standIns := [], harness := (true, "30e0b9793e9bc71d1783dff3583ad4ed1c026c8d6159c2d4c2251d60be95b170"), looks := true }, kinds := [], alts := [], laidByText := true, laidKinds := [.handle, .listed, .data, .sentinel, .sentinel, .sentinel, .sentinel, .sentinel, .sentinel, .sentinel, .sentinel, .sentinel, .sentinel, .sentinel, .sentinel, .sentinel, .sentinel, .sentinel, .sentinel, .sentinel, .sentinel, .sentinel, .sentinel, .sentinel], laidTests := true, laidLooks := .later }
def ArithNilUptoCardSaid : Prop := Claim7.holds Tryz.pinned (.plain (OpenSpec.upto arithNilSpec)) arithNilUptoCard

/-- THE SECOND FORM's CARD OF 'pidginlaw4.VarsKeep'. -/
def varsKeepUptoCard : Claim7 := { stood := { row := varsKeepUptoRow, standIns := [], harness := (true, "30e0b9793e9bc71d1783dff3583ad4ed1c026c8d6159c2d4c2251d60be95b170"), looks := true }, kinds := [], alts := [], laidByText := true, laidKinds := [.handle, .listed, .data, .sentinel, .sentinel, .sentinel, .sentinel, .sentinel, .sentinel, .sentinel, .sentinel, .sentinel, .sentinel, .sentinel, .sentinel, .sentinel, .sentinel, .sentinel, .sentinel, .sentinel, .sentinel, .sentinel, .sentinel, .sentinel], laidTests := true, laidLooks := .later }
def VarsKeepUptoCardSaid : Prop := Claim7.holds Tryz.pinned (.plain (OpenSpec.upto varsKeepSpec)) varsKeepUptoCard

/-- THE SECOND FORM's CARD OF 'pidginlaw4.ArithTwice'. -/
def arithTwiceUptoCard : Claim7 := { stood := { row := arithTwiceUptoRow, standIns := [], harness := (true, "30e0b9793e9bc71d1783dff3583ad4ed1c026c8d6159c2d4c2251d60be95b170"), looks := true }, kinds := [], alts := [], laidByText := true, laidKinds := [.handle, .listed, .data, .sentinel, .sentinel, .sentinel, .sentinel, .sentinel, .sentinel, .sentinel, .sentinel, .sentinel, .sentinel, .sentinel, .sentinel, .sentinel, .sentinel, .sentinel, .sentinel, .sentinel, .sentinel, .sentinel, .sentinel, .sentinel], laidTests := true, laidLooks := .later }
def ArithTwiceUptoCardSaid : Prop := Claim7.holds Tryz.pinned (.plain (OpenSpec.upto arithTwiceSpec)) arithTwiceUptoCard
end Rows
end Go.Proofs.YtjllmamblkejjaaGreatDoor
