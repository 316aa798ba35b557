/-
  DERIVED. GIVEN WITH THE SEED: THE CARDS: each row of YtgmooidagkbheaaDoorRows.lean that lists a variable, with what it lists TIED to the program's text (the seventh form; the later family's looks); each row that meets fmt, with fmt's text TOLD by the authors' own Lean function (tested against real Go, not proved from fmt's source: count such statements apart). THE CARD IS WHAT COUNTS. Prove the row's statement (the work); the ties are given (YtgmooidagkbheaaDoorTie.lean); close each card by the builder's one call (the guide's Derived/Test/ToyasCard.lean, 'card_holds'). Laid BY PROGRAM, IN A SANDBOX (cutbox-door.mjs). By AI agents, Wed Nov 11 2026. No macro, syntax, notation, axiom, sorry.
-/
import Derived.Test.YtgmooidagkbheaaDoorRows
import GoSem.ClaimSeven
namespace Go.Proofs.YtgmooidagkbheaaDoor
namespace Rows

/-- THE TIED CARD OF 'cylinderlaw07.ModularPower'. -/
def modularPowerCard : Claim7 := { stood := { row := modularPowerRow, standIns := [], harness := (true, "f684af54256c1bb3d06282b343d5663455219588413d5c3b3b626ce1693cb83a"), looks := false }, kinds := [], alts := [], laidByText := true, laidKinds := [.data], laidTests := true, laidLooks := .later }
def ModularPowerCardSaid : Prop := Claim7.holds Tryd.pinned (.plain (OpenSpec.ofChange modularPowerSpec)) modularPowerCard

/-- THE TIED CARD OF 'cylinderlaw07.ModularInverse'. -/
def modularInverseCard : Claim7 := { stood := { row := modularInverseRow, standIns := [], harness := (true, "f684af54256c1bb3d06282b343d5663455219588413d5c3b3b626ce1693cb83a"), looks := false }, kinds := [], alts := [], laidByText := true, laidKinds := [.data], laidTests := true, laidLooks := .later }
def ModularInverseCardSaid : Prop := Claim7.holds Tryd.pinned (.plain (OpenSpec.ofChange modularInverseSpec)) modularInverseCard

/-- THE TIED CARD OF 'cylinderlaw07.ModularPrime'. -/
def modularPrimeCard : Claim7 := { stood := { row := modularPrimeRow, standIns := [], harness := (true, "f684af54256c1bb3d06282b343d5663455219588413d5c3b3b626ce1693cb83a"), looks := false }, kinds := [], alts := [], laidByText := true, laidKinds := [.data], laidTests := true, laidLooks := .later }
def ModularPrimeCardSaid : Prop := Claim7.holds Tryd.pinned (.plain (OpenSpec.ofChange modularPrimeSpec)) modularPrimeCard

/-- THE TIED CARD OF 'cylinderlaw07.ModularArithmetic'. -/
def modularArithmeticCard : Claim7 := { stood := { row := modularArithmeticRow, standIns := [], harness := (true, "f684af54256c1bb3d06282b343d5663455219588413d5c3b3b626ce1693cb83a"), looks := false }, kinds := [], alts := [], laidByText := true, laidKinds := [.data], laidTests := true, laidLooks := .later }
def ModularArithmeticCardSaid : Prop := Claim7.holds Tryd.pinned (.plain (OpenSpec.ofChange modularArithmeticSpec)) modularArithmeticCard

/-- THE TIED CARD OF 'cylinderlaw07.ModularNext'. -/
def modularNextCard : Claim7 := { stood := { row := modularNextRow, standIns := [], harness := (true, "f684af54256c1bb3d06282b343d5663455219588413d5c3b3b626ce1693cb83a"), looks := false }, kinds := [], alts := [], laidByText := true, laidKinds := [.data], laidTests := true, laidLooks := .later }
def ModularNextCardSaid : Prop := Claim7.holds Tryd.pinned (.plain (OpenSpec.ofChange modularNextSpec)) modularNextCard

/-- THE TIED CARD OF 'cylinderlaw07.ModularSequence'. -/
def modularSequenceCard : Claim7 := { stood := { row := modularSequenceRow, standIns := [], harness := (true, "f684af54256c1bb3d06282b343d5663455219588413d5c3b3b626ce1693cb83a"), looks := false }, kinds := [], alts := [], laidByText := true, laidKinds := [.data], laidTests := true, laidLooks := .later }
def ModularSequenceCardSaid : Prop := Claim7.holds Tryd.pinned (.plain (OpenSpec.ofChange modularSequenceSpec)) modularSequenceCard

/-- THE TIED CARD OF 'cylinderlaw07.ModularFermat'. -/
def modularFermatCard : Claim7 := { stood := { row := modularFermatRow, standIns := [], harness := (true, "f684af54256c1bb3d06282b343d5663455219588413d5c3b3b626ce1693cb83a"), looks := false }, kinds := [], alts := [], laidByText := true, laidKinds := [.data], laidTests := true, laidLooks := .later }
def ModularFermatCardSaid : Prop := Claim7.holds Tryd.pinned (.plain (OpenSpec.ofChange modularFermatSpec)) modularFermatCard

/-- THE TIED CARD OF 'cylinderlaw03.DivisionJacobi'. -/
def divisionJacobiCard : Claim7 := { stood := { row := divisionJacobiRow, standIns := [], harness := (true, "f684af54256c1bb3d06282b343d5663455219588413d5c3b3b626ce1693cb83a"), looks := false }, kinds := [], alts := [], laidByText := true, laidKinds := [.data], laidTests := true, laidLooks := .later }
def DivisionJacobiCardSaid : Prop := Claim7.holds Tryd.pinned (.plain (OpenSpec.ofChange divisionJacobiSpec)) divisionJacobiCard

/-- THE TIED CARD OF 'cylinderlaw07.ModularReduce'. -/
def modularReduceCard : Claim7 := { stood := { row := modularReduceRow, standIns := [], harness := (true, "f684af54256c1bb3d06282b343d5663455219588413d5c3b3b626ce1693cb83a"), looks := false }, kinds := [], alts := [], laidByText := true, laidKinds := [.data], laidTests := true, laidLooks := .later }
def ModularReduceCardSaid : Prop := Claim7.holds Tryd.pinned (.plain (OpenSpec.ofChange modularReduceSpec)) modularReduceCard

/-- THE TIED CARD OF 'cylinderlaw03.DivisionSymbols'. -/
def divisionSymbolsCard : Claim7 := { stood := { row := divisionSymbolsRow, standIns := [], harness := (true, "f684af54256c1bb3d06282b343d5663455219588413d5c3b3b626ce1693cb83a"), looks := false }, kinds := [], alts := [], laidByText := true, laidKinds := [.data], laidTests := true, laidLooks := .later }
def DivisionSymbolsCardSaid : Prop := Claim7.holds Tryd.pinned (.plain (OpenSpec.ofChange divisionSymbolsSpec)) divisionSymbolsCard

/-- THE TIED CARD OF 'cylinderlaw07.ModularCombine'. -/
def modularCombineCard : Claim7 := { stood := { row := modularCombineRow, standIns := [], harness := (true, "f684af54256c1bb3d06282b343d5663455219588413d5c3b3b626ce1693cb83a"), looks := false }, kinds := [], alts := [], laidByText := true, laidKinds := [.data], laidTests := true, laidLooks := .later }
def ModularCombineCardSaid : Prop := Claim7.holds Tryd.pinned (.plain (OpenSpec.ofChange modularCombineSpec)) modularCombineCard

/-- THE SECOND FORM's CARD OF 'cylinderlaw07.ModularPower'. -/
def modularPowerUptoCard : Claim7 := { stood := { row := modularPowerUptoRow, standIns := [], harness := (true, "f684af54256c1bb3d06282b343d5663455219588413d5c3b3b626ce1693cb83a"), looks := false }, kinds := [], alts := [], laidByText := true, laidKinds := [.data], laidTests := true, laidLooks := .later }
def ModularPowerUptoCardSaid : Prop := Claim7.holds Tryd.pinned (.plain (OpenSpec.upto modularPowerSpec)) modularPowerUptoCard

/-- THE SECOND FORM's CARD OF 'cylinderlaw07.ModularInverse'. -/
def modularInverseUptoCard : Claim7 := { stood := { row := modularInverseUptoRow, standIns := [], harness := (true, "f684af54256c1bb3d06282b343d5663455219588413d5c3b3b626ce1693cb83a"), looks := false }, kinds := [], alts := [], laidByText := true, laidKinds := [.data], laidTests := true, laidLooks := .later }
def ModularInverseUptoCardSaid : Prop := Claim7.holds Tryd.pinned (.plain (OpenSpec.upto modularInverseSpec)) modularInverseUptoCard

/-- THE SECOND FORM's CARD OF 'cylinderlaw07.ModularPrime'. -/
def modularPrimeUptoCard : Claim7 := { stood := { row := modularPrimeUptoRow, standIns := [], harness := (true, "f684af54256c1bb3d06282b343d5663455219588413d5c3b3b626ce1693cb83a"), looks := false }, kinds := [], alts := [], laidByText := true, laidKinds := [.data], laidTests := true, laidLooks := .later }
def ModularPrimeUptoCardSaid : Prop := Claim7.holds Tryd.pinned (.plain (OpenSpec.upto modularPrimeSpec)) modularPrimeUptoCard

/-- THE SECOND FORM's CARD OF 'cylinderlaw07.ModularArithmetic'. -/
def modularArithmeticUptoCard : Claim7 := { stood := { row := modularArithmeticUptoRow, standIns := [], harness := (true, "f684af54256c1bb3d06282b343d5663455219588413d5c3b3b626ce1693cb83a"), looks := false }, kinds := [], alts := [], laidByText := true, laidKinds := [.data], laidTests := true, laidLooks := .later }
def ModularArithmeticUptoCardSaid : Prop := Claim7.holds Tryd.pinned (.plain (OpenSpec.upto modularArithmeticSpec)) modularArithmeticUptoCard

/-- THE SECOND FORM's CARD OF 'cylinderlaw07.ModularNext'. -/
def modularNextUptoCard : Claim7 := { stood := { row := modularNextUptoRow, standIns := [], harness := (true, "f684af54256c1bb3d06282b343d5663455219588413d5c3b3b626ce1693cb83a"), looks := false }, kinds := [], alts := [], laidByText := true, laidKinds := [.data], laidTests := true, laidLooks := .later }
def ModularNextUptoCardSaid : Prop := Claim7.holds Tryd.pinned (.plain (OpenSpec.upto modularNextSpec)) modularNextUptoCard

/-- THE SECOND FORM's CARD OF 'cylinderlaw07.ModularSequence'. -/
def modularSequenceUptoCard : Claim7 := { stood := { row := modularSequenceUptoRow, standIns := [], harness := (true, "f684af54256c1bb3d06282b343d5663455219588413d5c3b3b626ce1693cb83a"), looks := false }, kinds := [], alts := [], laidByText := true, laidKinds := [.data], laidTests := true, laidLooks := .later }
def ModularSequenceUptoCardSaid : Prop := Claim7.holds Tryd.pinned (.plain (OpenSpec.upto modularSequenceSpec)) modularSequenceUptoCard

/-- THE SECOND FORM's CARD OF 'cylinderlaw07.ModularFermat'. -/
def modularFermatUptoCard : Claim7 := { stood := { row := modularFermatUptoRow, standIns := [], harness := (true, "f684af54256c1bb3d06282b343d5663455219588413d5c3b3b626ce1693cb83a"), looks := false }, kinds := [], alts := [], laidByText := true, laidKinds := [.data], laidTests := true, laidLooks := .later }
def ModularFermatUptoCardSaid : Prop := Claim7.holds Tryd.pinned (.plain (OpenSpec.upto modularFermatSpec)) modularFermatUptoCard

/-- THE SECOND FORM's CARD OF 'cylinderlaw03.DivisionJacobi'. -/
def divisionJacobiUptoCard : Claim7 := { stood := { row := divisionJacobiUptoRow, standIns := [], harness := (true, "f684af54256c1bb3d06282b343d5663455219588413d5c3b3b626ce1693cb83a"), looks := false }, kinds := [], alts := [], laidByText := true, laidKinds := [.data], laidTests := true, laidLooks := .later }
def DivisionJacobiUptoCardSaid : Prop := Claim7.holds Tryd.pinned (.plain (OpenSpec.upto divisionJacobiSpec)) divisionJacobiUptoCard

/-- THE SECOND FORM's CARD OF 'cylinderlaw07.ModularReduce'. -/
def modularReduceUptoCard : Claim7 := { stood := { row := modularReduceUptoRow, standIns := [], harness := (true, "f684af54256c1bb3d06282b343d5663455219588413d5c3b3b626ce1693cb83a"), looks := false }, kinds := [], alts := [], laidByText := true, laidKinds := [.data], laidTests := true, laidLooks := .later }
def ModularReduceUptoCardSaid : Prop := Claim7.holds Tryd.pinned (.plain (OpenSpec.upto modularReduceSpec)) modularReduceUptoCard

/-- THE SECOND FORM's CARD OF 'cylinderlaw03.DivisionSymbols'. -/
def divisionSymbolsUptoCard : Claim7 := { stood := { row := divisionSymbolsUptoRow, standIns := [], harness := (true, "f684af54256c1bb3d06282b343d5663455219588413d5c3b3b626ce1693cb83a"), looks := false }, kinds := [], alts := [], laidByText := true, laidKinds := [.data], laidTests := true, laidLooks := .later }
def DivisionSymbolsUptoCardSaid : Prop := Claim7.holds Tryd.pinned (.plain (OpenSpec.upto divisionSymbolsSpec)) divisionSymbolsUptoCard

/-- THE SECOND FORM's CARD OF 'cylinderlaw07.ModularCombine'. -/
def modularCombineUptoCard : Claim7 := { stood := { row := modularCombineUptoRow, standIns := [], harness := (true, "f684af54256c1bb3d06282b343d5663455219588413d5c3b3b626ce1693cb83a"), looks := false }, kinds := [], alts := [], laidByText := true, laidKinds := [.data], laidTests := true, laidLooks := .later }
def ModularCombineUptoCardSaid : Prop := Claim7.holds Tryd.pinned (.plain (OpenSpec.upto modularCombineSpec)) modularCombineUptoCard
end Rows
end Go.Proofs.YtgmooidagkbheaaDoor
