/-
  DERIVED. GIVEN WITH THE SEED: THE CARDS: each row of YthdccdbiichabaaDoorRows.lean that lists a variable, with what it lists TIED to the program's text (the seventh form; the later family's looks); each row that meets fmt, with fmt's text TOLD by the authors' own Lean function (tested against real Go, not proved from fmt's source: count such statements apart). THE CARD IS WHAT COUNTS. Prove the row's statement (the work); the ties are given (YthdccdbiichabaaDoorTie.lean); close each card by the builder's one call (the guide's Derived/Test/ToyasCard.lean, 'card_holds'). Laid BY PROGRAM, IN A SANDBOX (cutbox-door.mjs). By AI agents, Wed Nov 11 2026. No macro, syntax, notation, axiom, sorry.
-/
import Derived.Test.YthdccdbiichabaaDoorRows
import GoSem.ClaimSeven
namespace Go.Proofs.YthdccdbiichabaaDoor
namespace Rows

/-- THE TIED CARD OF 'sorrellaw05.ReadRight'. -/
def readRightCard : Claim7 := { stood := { row := readRightRow, standIns := [], harness := (true, "5a618b8466285ff5b2823398468f2f050dd1576e96d60b196d83b5df040ba207"), looks := true }, kinds := [], alts := [], laidByText := true, laidKinds := [.data, .data, .data, .sentinel, .sentinel], laidTests := true, laidLooks := .later }
def ReadRightCardSaid : Prop := Claim7.holds Tryd.pinned (.plain (OpenSpec.ofChange readRightSpec)) readRightCard

/-- THE TIED CARD OF 'sorrellaw05.ReadShift'. -/
def readShiftCard : Claim7 := { stood := { row := readShiftRow, standIns := [], harness := (true, "5a618b8466285ff5b2823398468f2f050dd1576e96d60b196d83b5df040ba207"), looks := true }, kinds := [], alts := [], laidByText := true, laidKinds := [.data, .data, .data, .sentinel, .sentinel], laidTests := true, laidLooks := .later }
def ReadShiftCardSaid : Prop := Claim7.holds Tryd.pinned (.plain (OpenSpec.ofChange readShiftSpec)) readShiftCard

/-- THE TIED CARD OF 'sorrellaw05.ReadJoin'. -/
def readJoinCard : Claim7 := { stood := { row := readJoinRow, standIns := [], harness := (true, "5a618b8466285ff5b2823398468f2f050dd1576e96d60b196d83b5df040ba207"), looks := true }, kinds := [], alts := [], laidByText := true, laidKinds := [.data, .data, .data, .sentinel, .sentinel], laidTests := true, laidLooks := .later }
def ReadJoinCardSaid : Prop := Claim7.holds Tryd.pinned (.plain (OpenSpec.ofChange readJoinSpec)) readJoinCard

/-- THE TIED CARD OF 'sorrellaw05.ReadMinus'. -/
def readMinusCard : Claim7 := { stood := { row := readMinusRow, standIns := [], harness := (true, "5a618b8466285ff5b2823398468f2f050dd1576e96d60b196d83b5df040ba207"), looks := true }, kinds := [], alts := [], laidByText := true, laidKinds := [.data, .data, .data, .sentinel, .sentinel], laidTests := true, laidLooks := .later }
def ReadMinusCardSaid : Prop := Claim7.holds Tryd.pinned (.plain (OpenSpec.ofChange readMinusSpec)) readMinusCard

/-- THE SECOND FORM's CARD OF 'sorrellaw05.ReadRight'. -/
def readRightUptoCard : Claim7 := { stood := { row := readRightUptoRow, standIns := [], harness := (true, "5a618b8466285ff5b2823398468f2f050dd1576e96d60b196d83b5df040ba207"), looks := true }, kinds := [], alts := [], laidByText := true, laidKinds := [.data, .data, .data, .sentinel, .sentinel], laidTests := true, laidLooks := .later }
def ReadRightUptoCardSaid : Prop := Claim7.holds Tryd.pinned (.plain (OpenSpec.upto readRightSpec)) readRightUptoCard

/-- THE SECOND FORM's CARD OF 'sorrellaw05.ReadShift'. -/
def readShiftUptoCard : Claim7 := { stood := { row := readShiftUptoRow, standIns := [], harness := (true, "5a618b8466285ff5b2823398468f2f050dd1576e96d60b196d83b5df040ba207"), looks := true }, kinds := [], alts := [], laidByText := true, laidKinds := [.data, .data, .data, .sentinel, .sentinel], laidTests := true, laidLooks := .later }
def ReadShiftUptoCardSaid : Prop := Claim7.holds Tryd.pinned (.plain (OpenSpec.upto readShiftSpec)) readShiftUptoCard

/-- THE SECOND FORM's CARD OF 'sorrellaw05.ReadJoin'. -/
def readJoinUptoCard : Claim7 := { stood := { row := readJoinUptoRow, standIns := [], harness := (true, "5a618b8466285ff5b2823398468f2f050dd1576e96d60b196d83b5df040ba207"), looks := true }, kinds := [], alts := [], laidByText := true, laidKinds := [.data, .data, .data, .sentinel, .sentinel], laidTests := true, laidLooks := .later }
def ReadJoinUptoCardSaid : Prop := Claim7.holds Tryd.pinned (.plain (OpenSpec.upto readJoinSpec)) readJoinUptoCard

/-- THE SECOND FORM's CARD OF 'sorrellaw05.ReadMinus'. -/
def readMinusUptoCard : Claim7 := { stood := { row := readMinusUptoRow, standIns := [], harness := (true, "5a618b8466285ff5b2823398468f2f050dd1576e96d60b196d83b5df040ba207"), looks := true }, kinds := [], alts := [], laidByText := true, laidKinds := [.data, .data, .data, .sentinel, .sentinel], laidTests := true, laidLooks := .later }
def ReadMinusUptoCardSaid : Prop := Claim7.holds Tryd.pinned (.plain (OpenSpec.upto readMinusSpec)) readMinusUptoCard
end Rows
end Go.Proofs.YthdccdbiichabaaDoor
