/-
  NARROWER THAN 'FOR EVERY INPUT', by the rows' own cells (each row's printed sentence says how): ModularPower: laid · ModularInverse: laid · ModularPrime: laid · ModularArithmetic: laid · ModularNext: laid · ModularSequence: laid · ModularFermat: laid · DivisionJacobi: laid · ModularReduce: laid · DivisionSymbols: laid · ModularCombine: laid.
  DERIVED. THE GIVEN ROWS OF THIS SEAT. 11 by the template 'for every input the law returns true; each argument reads behind the call as it read before'; 0 by the template 'total and deterministic' (their statements: YtgmooidagkbheaaDoorTotals.lean).
  GIVEN WITH THE SEED: the statements are not yours to turn. If you find one false, say at which input.
  Laid BY PROGRAM, IN A SANDBOX (cutbox-rows.mjs): the forced cells as the released guide's own fill.sh prints them over the translation fb20dba6e4804bb4… (all of the seat's roots in one cut). By AI agents, Wed Nov 11 2026. No macro, syntax, notation, axiom, sorry.
-/
import Derived.Test.YtgmooidagkbheaaDoorChecked
import GoSem.Claim
import GoSem.ClaimJoined
import GoSem.ClaimMapViews
import Derived.JoinedTies
import Derived.KernelRfl
namespace Go.Proofs.YtgmooidagkbheaaDoor
/- THE CELL 'sum', in the pinned program and in every row, IS THE sha256 OF THE DUMP (.gsa) THAT YtgmooidagkbheaaDoorProg.lean LOADS. Nothing in Lean hashes anything: it is a label: what it is worth is what the hold of that sum in a sandbox is worth. -/
noncomputable def Tryd.pinned : Pinned := { name := "ytgmooidagkbheaadoor", sum := "fb20dba6e4804bb4ac15fb148b6759dda450d3874fc24908bcef1e771cb94c2b", checked := Tryd.checked }
namespace Rows
def none {H : Type} : Left H := { results := [], args := [] }

/- WHAT THE LISTED PACKAGE-LEVEL VARIABLES READ AS WHEN THE CALL BEGINS. Each datum BY PROGRAM (the guide's laid-datum.mjs) off the statement by which the dump's own 'gosem.cut.vars' lays the variable. In a bare row this is a premise. The card (YtgmooidagkbheaaDoorCards.lean) ties it to the program's text. -/
def laid_math_bits_deBruijn32tab {H : Type} : DataW H := .agg [.lit (.int .u8 0), .lit (.int .u8 1), .lit (.int .u8 28), .lit (.int .u8 2), .lit (.int .u8 29), .lit (.int .u8 14), .lit (.int .u8 24), .lit (.int .u8 3), .lit (.int .u8 30), .lit (.int .u8 22), .lit (.int .u8 20), .lit (.int .u8 15), .lit (.int .u8 25), .lit (.int .u8 17), .lit (.int .u8 4), .lit (.int .u8 8), .lit (.int .u8 31), .lit (.int .u8 27), .lit (.int .u8 13), .lit (.int .u8 23), .lit (.int .u8 21), .lit (.int .u8 19), .lit (.int .u8 16), .lit (.int .u8 7), .lit (.int .u8 26), .lit (.int .u8 12), .lit (.int .u8 18), .lit (.int .u8 6), .lit (.int .u8 11), .lit (.int .u8 5), .lit (.int .u8 10), .lit (.int .u8 9)]

/-- 'cylinderlaw07.ModularPower': WHATEVER THE INPUT: true; the input reads as it did. -/
def modularPowerSpec : ChangeSpec := { name := "modularPower", fn := fun _ => fun
  | [d1, d2, d3] => { results := [.lit (.bool true)], args := [d1, d2, d3] }
  | _ => none }
def modularPowerRow : OpenClaim := { program := "ytgmooidagkbheaadoor", sum := "fb20dba6e4804bb4ac15fb148b6759dda450d3874fc24908bcef1e771cb94c2b", func := "cylinder/cylinderlaw07.ModularPower", spec := "modularPower", named := ["math/bits.deBruijn32tab"], apart := false, laid := [("math/bits.deBruijn32tab", laid_math_bits_deBruijn32tab)] }
def ModularPowerSaid : Prop := modularPowerRow.holds Tryd.pinned (OpenSpec.ofChange modularPowerSpec)

/-- ITS FALSE NEIGHBOUR: 'it returns false'. Refute it at one input. -/
def modularPowerWrong : ChangeSpec := { name := "modularPower", fn := fun _ => fun
  | [d1, d2, d3] => { results := [.lit (.bool false)], args := [d1, d2, d3] }
  | _ => none }
def ModularPowerWrongFalsely : Prop := modularPowerRow.holds Tryd.pinned (OpenSpec.ofChange modularPowerWrong)

/-- 'cylinderlaw07.ModularInverse': WHATEVER THE INPUT: true; the input reads as it did. -/
def modularInverseSpec : ChangeSpec := { name := "modularInverse", fn := fun _ => fun
  | [d1, d2] => { results := [.lit (.bool true)], args := [d1, d2] }
  | _ => none }
def modularInverseRow : OpenClaim := { program := "ytgmooidagkbheaadoor", sum := "fb20dba6e4804bb4ac15fb148b6759dda450d3874fc24908bcef1e771cb94c2b", func := "cylinder/cylinderlaw07.ModularInverse", spec := "modularInverse", named := ["math/bits.deBruijn32tab"], apart := false, laid := [("math/bits.deBruijn32tab", laid_math_bits_deBruijn32tab)] }
def ModularInverseSaid : Prop := modularInverseRow.holds Tryd.pinned (OpenSpec.ofChange modularInverseSpec)

/-- ITS FALSE NEIGHBOUR: 'it returns false'. Refute it at one input. -/
def modularInverseWrong : ChangeSpec := { name := "modularInverse", fn := fun _ => fun
  | [d1, d2] => { results := [.lit (.bool false)], args := [d1, d2] }
  | _ => none }
def ModularInverseWrongFalsely : Prop := modularInverseRow.holds Tryd.pinned (OpenSpec.ofChange modularInverseWrong)

/-- 'cylinderlaw07.ModularPrime': WHATEVER THE INPUT: true; the input reads as it did. -/
def modularPrimeSpec : ChangeSpec := { name := "modularPrime", fn := fun _ => fun
  | [d1, d2, d3] => { results := [.lit (.bool true)], args := [d1, d2, d3] }
  | _ => none }
def modularPrimeRow : OpenClaim := { program := "ytgmooidagkbheaadoor", sum := "fb20dba6e4804bb4ac15fb148b6759dda450d3874fc24908bcef1e771cb94c2b", func := "cylinder/cylinderlaw07.ModularPrime", spec := "modularPrime", named := ["math/bits.deBruijn32tab"], apart := false, laid := [("math/bits.deBruijn32tab", laid_math_bits_deBruijn32tab)] }
def ModularPrimeSaid : Prop := modularPrimeRow.holds Tryd.pinned (OpenSpec.ofChange modularPrimeSpec)

/-- ITS FALSE NEIGHBOUR: 'it returns false'. Refute it at one input. -/
def modularPrimeWrong : ChangeSpec := { name := "modularPrime", fn := fun _ => fun
  | [d1, d2, d3] => { results := [.lit (.bool false)], args := [d1, d2, d3] }
  | _ => none }
def ModularPrimeWrongFalsely : Prop := modularPrimeRow.holds Tryd.pinned (OpenSpec.ofChange modularPrimeWrong)

/-- 'cylinderlaw07.ModularArithmetic': WHATEVER THE INPUT: true; the input reads as it did. -/
def modularArithmeticSpec : ChangeSpec := { name := "modularArithmetic", fn := fun _ => fun
  | [d1, d2, d3] => { results := [.lit (.bool true)], args := [d1, d2, d3] }
  | _ => none }
def modularArithmeticRow : OpenClaim := { program := "ytgmooidagkbheaadoor", sum := "fb20dba6e4804bb4ac15fb148b6759dda450d3874fc24908bcef1e771cb94c2b", func := "cylinder/cylinderlaw07.ModularArithmetic", spec := "modularArithmetic", named := ["math/bits.deBruijn32tab"], apart := false, laid := [("math/bits.deBruijn32tab", laid_math_bits_deBruijn32tab)] }
def ModularArithmeticSaid : Prop := modularArithmeticRow.holds Tryd.pinned (OpenSpec.ofChange modularArithmeticSpec)

/-- ITS FALSE NEIGHBOUR: 'it returns false'. Refute it at one input. -/
def modularArithmeticWrong : ChangeSpec := { name := "modularArithmetic", fn := fun _ => fun
  | [d1, d2, d3] => { results := [.lit (.bool false)], args := [d1, d2, d3] }
  | _ => none }
def ModularArithmeticWrongFalsely : Prop := modularArithmeticRow.holds Tryd.pinned (OpenSpec.ofChange modularArithmeticWrong)

/-- 'cylinderlaw07.ModularNext': WHATEVER THE INPUT: true; the input reads as it did. -/
def modularNextSpec : ChangeSpec := { name := "modularNext", fn := fun _ => fun
  | [d] => { results := [.lit (.bool true)], args := [d] }
  | _ => none }
def modularNextRow : OpenClaim := { program := "ytgmooidagkbheaadoor", sum := "fb20dba6e4804bb4ac15fb148b6759dda450d3874fc24908bcef1e771cb94c2b", func := "cylinder/cylinderlaw07.ModularNext", spec := "modularNext", unfollowed := true, recurses := true, named := ["math/bits.deBruijn32tab"], apart := false, laid := [("math/bits.deBruijn32tab", laid_math_bits_deBruijn32tab)] }
def ModularNextSaid : Prop := modularNextRow.holds Tryd.pinned (OpenSpec.ofChange modularNextSpec)

/-- ITS FALSE NEIGHBOUR: 'it returns false'. Refute it at one input. -/
def modularNextWrong : ChangeSpec := { name := "modularNext", fn := fun _ => fun
  | [d] => { results := [.lit (.bool false)], args := [d] }
  | _ => none }
def ModularNextWrongFalsely : Prop := modularNextRow.holds Tryd.pinned (OpenSpec.ofChange modularNextWrong)

/-- 'cylinderlaw07.ModularSequence': WHATEVER THE INPUT: true; the input reads as it did. -/
def modularSequenceSpec : ChangeSpec := { name := "modularSequence", fn := fun _ => fun
  | [d1, d2] => { results := [.lit (.bool true)], args := [d1, d2] }
  | _ => none }
def modularSequenceRow : OpenClaim := { program := "ytgmooidagkbheaadoor", sum := "fb20dba6e4804bb4ac15fb148b6759dda450d3874fc24908bcef1e771cb94c2b", func := "cylinder/cylinderlaw07.ModularSequence", spec := "modularSequence", unfollowed := true, recurses := true, named := ["math/bits.deBruijn32tab"], apart := false, laid := [("math/bits.deBruijn32tab", laid_math_bits_deBruijn32tab)] }
def ModularSequenceSaid : Prop := modularSequenceRow.holds Tryd.pinned (OpenSpec.ofChange modularSequenceSpec)

/-- ITS FALSE NEIGHBOUR: 'it returns false'. Refute it at one input. -/
def modularSequenceWrong : ChangeSpec := { name := "modularSequence", fn := fun _ => fun
  | [d1, d2] => { results := [.lit (.bool false)], args := [d1, d2] }
  | _ => none }
def ModularSequenceWrongFalsely : Prop := modularSequenceRow.holds Tryd.pinned (OpenSpec.ofChange modularSequenceWrong)

/-- 'cylinderlaw07.ModularFermat': WHATEVER THE INPUT: true; the input reads as it did. -/
def modularFermatSpec : ChangeSpec := { name := "modularFermat", fn := fun _ => fun
  | [d1, d2] => { results := [.lit (.bool true)], args := [d1, d2] }
  | _ => none }
def modularFermatRow : OpenClaim := { program := "ytgmooidagkbheaadoor", sum := "fb20dba6e4804bb4ac15fb148b6759dda450d3874fc24908bcef1e771cb94c2b", func := "cylinder/cylinderlaw07.ModularFermat", spec := "modularFermat", unfollowed := true, recurses := true, named := ["math/bits.deBruijn32tab"], apart := false, laid := [("math/bits.deBruijn32tab", laid_math_bits_deBruijn32tab)] }
def ModularFermatSaid : Prop := modularFermatRow.holds Tryd.pinned (OpenSpec.ofChange modularFermatSpec)

/-- ITS FALSE NEIGHBOUR: 'it returns false'. Refute it at one input. -/
def modularFermatWrong : ChangeSpec := { name := "modularFermat", fn := fun _ => fun
  | [d1, d2] => { results := [.lit (.bool false)], args := [d1, d2] }
  | _ => none }
def ModularFermatWrongFalsely : Prop := modularFermatRow.holds Tryd.pinned (OpenSpec.ofChange modularFermatWrong)

/-- 'cylinderlaw03.DivisionJacobi': WHATEVER THE INPUT: true; the input reads as it did. -/
def divisionJacobiSpec : ChangeSpec := { name := "divisionJacobi", fn := fun _ => fun
  | [d1, d2] => { results := [.lit (.bool true)], args := [d1, d2] }
  | _ => none }
def divisionJacobiRow : OpenClaim := { program := "ytgmooidagkbheaadoor", sum := "fb20dba6e4804bb4ac15fb148b6759dda450d3874fc24908bcef1e771cb94c2b", func := "cylinder/cylinderlaw03.DivisionJacobi", spec := "divisionJacobi", unfollowed := true, recurses := true, named := ["math/bits.overflowError", "math/bits.deBruijn32tab"], apart := false, laid := [("math/bits.deBruijn32tab", laid_math_bits_deBruijn32tab)] }
def DivisionJacobiSaid : Prop := divisionJacobiRow.holds Tryd.pinned (OpenSpec.ofChange divisionJacobiSpec)

/-- ITS FALSE NEIGHBOUR: 'it returns false'. Refute it at one input. -/
def divisionJacobiWrong : ChangeSpec := { name := "divisionJacobi", fn := fun _ => fun
  | [d1, d2] => { results := [.lit (.bool false)], args := [d1, d2] }
  | _ => none }
def DivisionJacobiWrongFalsely : Prop := divisionJacobiRow.holds Tryd.pinned (OpenSpec.ofChange divisionJacobiWrong)

/-- 'cylinderlaw07.ModularReduce': WHATEVER THE INPUT: true; the input reads as it did. -/
def modularReduceSpec : ChangeSpec := { name := "modularReduce", fn := fun _ => fun
  | [d1, d2, d3] => { results := [.lit (.bool true)], args := [d1, d2, d3] }
  | _ => none }
def modularReduceRow : OpenClaim := { program := "ytgmooidagkbheaadoor", sum := "fb20dba6e4804bb4ac15fb148b6759dda450d3874fc24908bcef1e771cb94c2b", func := "cylinder/cylinderlaw07.ModularReduce", spec := "modularReduce", unfollowed := true, recurses := true, named := ["math/bits.deBruijn32tab", "math/bits.overflowError"], apart := false, laid := [("math/bits.deBruijn32tab", laid_math_bits_deBruijn32tab)] }
def ModularReduceSaid : Prop := modularReduceRow.holds Tryd.pinned (OpenSpec.ofChange modularReduceSpec)

/-- ITS FALSE NEIGHBOUR: 'it returns false'. Refute it at one input. -/
def modularReduceWrong : ChangeSpec := { name := "modularReduce", fn := fun _ => fun
  | [d1, d2, d3] => { results := [.lit (.bool false)], args := [d1, d2, d3] }
  | _ => none }
def ModularReduceWrongFalsely : Prop := modularReduceRow.holds Tryd.pinned (OpenSpec.ofChange modularReduceWrong)

/-- 'cylinderlaw03.DivisionSymbols': WHATEVER THE INPUT: true; the input reads as it did. -/
def divisionSymbolsSpec : ChangeSpec := { name := "divisionSymbols", fn := fun _ => fun
  | [d1, d2, d3] => { results := [.lit (.bool true)], args := [d1, d2, d3] }
  | _ => none }
def divisionSymbolsRow : OpenClaim := { program := "ytgmooidagkbheaadoor", sum := "fb20dba6e4804bb4ac15fb148b6759dda450d3874fc24908bcef1e771cb94c2b", func := "cylinder/cylinderlaw03.DivisionSymbols", spec := "divisionSymbols", unfollowed := true, recurses := true, named := ["math/bits.overflowError", "math/bits.deBruijn32tab"], apart := false, laid := [("math/bits.deBruijn32tab", laid_math_bits_deBruijn32tab)] }
def DivisionSymbolsSaid : Prop := divisionSymbolsRow.holds Tryd.pinned (OpenSpec.ofChange divisionSymbolsSpec)

/-- ITS FALSE NEIGHBOUR: 'it returns false'. Refute it at one input. -/
def divisionSymbolsWrong : ChangeSpec := { name := "divisionSymbols", fn := fun _ => fun
  | [d1, d2, d3] => { results := [.lit (.bool false)], args := [d1, d2, d3] }
  | _ => none }
def DivisionSymbolsWrongFalsely : Prop := divisionSymbolsRow.holds Tryd.pinned (OpenSpec.ofChange divisionSymbolsWrong)

/-- 'cylinderlaw07.ModularCombine': WHATEVER THE INPUT: true; the input reads as it did. -/
def modularCombineSpec : ChangeSpec := { name := "modularCombine", fn := fun _ => fun
  | [d1, d2, d3] => { results := [.lit (.bool true)], args := [d1, d2, d3] }
  | _ => none }
def modularCombineRow : OpenClaim := { program := "ytgmooidagkbheaadoor", sum := "fb20dba6e4804bb4ac15fb148b6759dda450d3874fc24908bcef1e771cb94c2b", func := "cylinder/cylinderlaw07.ModularCombine", spec := "modularCombine", unfollowed := true, recurses := true, named := ["math/bits.deBruijn32tab", "math/bits.overflowError"], apart := false, laid := [("math/bits.deBruijn32tab", laid_math_bits_deBruijn32tab)] }
def ModularCombineSaid : Prop := modularCombineRow.holds Tryd.pinned (OpenSpec.ofChange modularCombineSpec)

/-- ITS FALSE NEIGHBOUR: 'it returns false'. Refute it at one input. -/
def modularCombineWrong : ChangeSpec := { name := "modularCombine", fn := fun _ => fun
  | [d1, d2, d3] => { results := [.lit (.bool false)], args := [d1, d2, d3] }
  | _ => none }
def ModularCombineWrongFalsely : Prop := modularCombineRow.holds Tryd.pinned (OpenSpec.ofChange modularCombineWrong)

/- THE SECOND FORM. 'bulk': how many values and letters a reading holds, each counted each time it is reached (what is shared counts as often as it is met; a slice's spare places count too). A statement '..UptoSaid' is the law's where the arguments, and the package variables that the reading takes, are together of bulk at most 1048576: NARROWER than '..Said'. Prove '..Said' where nothing that the law and all that it calls make is longer than what came in: it says more and counts as full. Else prove '..UptoSaid'. A law counts once. -/
mutual
def uptoBulk {H : Type} : DataW H → Nat
  | .lit (.string bytes) => bytes.length + 1
  | .lit _ => 1
  | .nil => 1
  | .ptr d => uptoBulk d + 1
  | .slice elems spare => uptoBulkAll elems + uptoBulkAll spare + 1
  | .agg parts => uptoBulkAll parts + 1
  | .iface _ d => uptoBulk d + 1
  | .map entries => uptoBulkEntries entries + 1
  | .held _ => 1
def uptoBulkAll {H : Type} : List (DataW H) → Nat
  | [] => 0
  | d :: r => uptoBulk d + uptoBulkAll r
def uptoBulkEntries {H : Type} : List (Lit × DataW H) → Nat
  | [] => 0
  | x :: r => uptoBulkEntry x + uptoBulkEntries r
def uptoBulkEntry {H : Type} : Lit × DataW H → Nat
  | (.string bytes, d) => bytes.length + uptoBulk d + 1
  | (_, d) => uptoBulk d + 1
 end
def uptoSmall : (H : Type) → List (DataW H) → Bool := fun _ ds => decide (uptoBulkAll ds ≤ 1048576)
def OpenSpec.upto (s : _root_.Go.ChangeSpec) : _root_.Go.OpenSpec := { _root_.Go.OpenSpec.ofChange s with cond := some uptoSmall }

/-- 'cylinderlaw07.ModularPower', WHERE WHAT IT READS IS OF BULK AT MOST 1048576: true; the input reads as it did. -/
def modularPowerUptoRow : OpenClaim := { program := "ytgmooidagkbheaadoor", sum := "fb20dba6e4804bb4ac15fb148b6759dda450d3874fc24908bcef1e771cb94c2b", func := "cylinder/cylinderlaw07.ModularPower", spec := "modularPower", named := ["math/bits.deBruijn32tab"], apart := false, laid := [("math/bits.deBruijn32tab", laid_math_bits_deBruijn32tab)], narrowed := true }
def ModularPowerUptoSaid : Prop := modularPowerUptoRow.holds Tryd.pinned (OpenSpec.upto modularPowerSpec)

/-- 'cylinderlaw07.ModularInverse', WHERE WHAT IT READS IS OF BULK AT MOST 1048576: true; the input reads as it did. -/
def modularInverseUptoRow : OpenClaim := { program := "ytgmooidagkbheaadoor", sum := "fb20dba6e4804bb4ac15fb148b6759dda450d3874fc24908bcef1e771cb94c2b", func := "cylinder/cylinderlaw07.ModularInverse", spec := "modularInverse", named := ["math/bits.deBruijn32tab"], apart := false, laid := [("math/bits.deBruijn32tab", laid_math_bits_deBruijn32tab)], narrowed := true }
def ModularInverseUptoSaid : Prop := modularInverseUptoRow.holds Tryd.pinned (OpenSpec.upto modularInverseSpec)

/-- 'cylinderlaw07.ModularPrime', WHERE WHAT IT READS IS OF BULK AT MOST 1048576: true; the input reads as it did. -/
def modularPrimeUptoRow : OpenClaim := { program := "ytgmooidagkbheaadoor", sum := "fb20dba6e4804bb4ac15fb148b6759dda450d3874fc24908bcef1e771cb94c2b", func := "cylinder/cylinderlaw07.ModularPrime", spec := "modularPrime", named := ["math/bits.deBruijn32tab"], apart := false, laid := [("math/bits.deBruijn32tab", laid_math_bits_deBruijn32tab)], narrowed := true }
def ModularPrimeUptoSaid : Prop := modularPrimeUptoRow.holds Tryd.pinned (OpenSpec.upto modularPrimeSpec)

/-- 'cylinderlaw07.ModularArithmetic', WHERE WHAT IT READS IS OF BULK AT MOST 1048576: true; the input reads as it did. -/
def modularArithmeticUptoRow : OpenClaim := { program := "ytgmooidagkbheaadoor", sum := "fb20dba6e4804bb4ac15fb148b6759dda450d3874fc24908bcef1e771cb94c2b", func := "cylinder/cylinderlaw07.ModularArithmetic", spec := "modularArithmetic", named := ["math/bits.deBruijn32tab"], apart := false, laid := [("math/bits.deBruijn32tab", laid_math_bits_deBruijn32tab)], narrowed := true }
def ModularArithmeticUptoSaid : Prop := modularArithmeticUptoRow.holds Tryd.pinned (OpenSpec.upto modularArithmeticSpec)

/-- 'cylinderlaw07.ModularNext', WHERE WHAT IT READS IS OF BULK AT MOST 1048576: true; the input reads as it did. -/
def modularNextUptoRow : OpenClaim := { program := "ytgmooidagkbheaadoor", sum := "fb20dba6e4804bb4ac15fb148b6759dda450d3874fc24908bcef1e771cb94c2b", func := "cylinder/cylinderlaw07.ModularNext", spec := "modularNext", unfollowed := true, recurses := true, named := ["math/bits.deBruijn32tab"], apart := false, laid := [("math/bits.deBruijn32tab", laid_math_bits_deBruijn32tab)], narrowed := true }
def ModularNextUptoSaid : Prop := modularNextUptoRow.holds Tryd.pinned (OpenSpec.upto modularNextSpec)

/-- 'cylinderlaw07.ModularSequence', WHERE WHAT IT READS IS OF BULK AT MOST 1048576: true; the input reads as it did. -/
def modularSequenceUptoRow : OpenClaim := { program := "ytgmooidagkbheaadoor", sum := "fb20dba6e4804bb4ac15fb148b6759dda450d3874fc24908bcef1e771cb94c2b", func := "cylinder/cylinderlaw07.ModularSequence", spec := "modularSequence", unfollowed := true, recurses := true, named := ["math/bits.deBruijn32tab"], apart := false, laid := [("math/bits.deBruijn32tab", laid_math_bits_deBruijn32tab)], narrowed := true }
def ModularSequenceUptoSaid : Prop := modularSequenceUptoRow.holds Tryd.pinned (OpenSpec.upto modularSequenceSpec)

/-- 'cylinderlaw07.ModularFermat', WHERE WHAT IT READS IS OF BULK AT MOST 1048576: true; the input reads as it did. -/
def modularFermatUptoRow : OpenClaim := { program := "ytgmooidagkbheaadoor", sum := "fb20dba6e4804bb4ac15fb148b6759dda450d3874fc24908bcef1e771cb94c2b", func := "cylinder/cylinderlaw07.ModularFermat", spec := "modularFermat", unfollowed := true, recurses := true, named := ["math/bits.deBruijn32tab"], apart := false, laid := [("math/bits.deBruijn32tab", laid_math_bits_deBruijn32tab)], narrowed := true }
def ModularFermatUptoSaid : Prop := modularFermatUptoRow.holds Tryd.pinned (OpenSpec.upto modularFermatSpec)

/-- 'cylinderlaw03.DivisionJacobi', WHERE WHAT IT READS IS OF BULK AT MOST 1048576: true; the input reads as it did. -/
def divisionJacobiUptoRow : OpenClaim := { program := "ytgmooidagkbheaadoor", sum := "fb20dba6e4804bb4ac15fb148b6759dda450d3874fc24908bcef1e771cb94c2b", func := "cylinder/cylinderlaw03.DivisionJacobi", spec := "divisionJacobi", unfollowed := true, recurses := true, named := ["math/bits.overflowError", "math/bits.deBruijn32tab"], apart := false, laid := [("math/bits.deBruijn32tab", laid_math_bits_deBruijn32tab)], narrowed := true }
def DivisionJacobiUptoSaid : Prop := divisionJacobiUptoRow.holds Tryd.pinned (OpenSpec.upto divisionJacobiSpec)

/-- 'cylinderlaw07.ModularReduce', WHERE WHAT IT READS IS OF BULK AT MOST 1048576: true; the input reads as it did. -/
def modularReduceUptoRow : OpenClaim := { program := "ytgmooidagkbheaadoor", sum := "fb20dba6e4804bb4ac15fb148b6759dda450d3874fc24908bcef1e771cb94c2b", func := "cylinder/cylinderlaw07.ModularReduce", spec := "modularReduce", unfollowed := true, recurses := true, named := ["math/bits.deBruijn32tab", "math/bits.overflowError"], apart := false, laid := [("math/bits.deBruijn32tab", laid_math_bits_deBruijn32tab)], narrowed := true }
def ModularReduceUptoSaid : Prop := modularReduceUptoRow.holds Tryd.pinned (OpenSpec.upto modularReduceSpec)

/-- 'cylinderlaw03.DivisionSymbols', WHERE WHAT IT READS IS OF BULK AT MOST 1048576: true; the input reads as it did. -/
def divisionSymbolsUptoRow : OpenClaim := { program := "ytgmooidagkbheaadoor", sum := "fb20dba6e4804bb4ac15fb148b6759dda450d3874fc24908bcef1e771cb94c2b", func := "cylinder/cylinderlaw03.DivisionSymbols", spec := "divisionSymbols", unfollowed := true, recurses := true, named := ["math/bits.overflowError", "math/bits.deBruijn32tab"], apart := false, laid := [("math/bits.deBruijn32tab", laid_math_bits_deBruijn32tab)], narrowed := true }
def DivisionSymbolsUptoSaid : Prop := divisionSymbolsUptoRow.holds Tryd.pinned (OpenSpec.upto divisionSymbolsSpec)

/-- 'cylinderlaw07.ModularCombine', WHERE WHAT IT READS IS OF BULK AT MOST 1048576: true; the input reads as it did. -/
def modularCombineUptoRow : OpenClaim := { program := "ytgmooidagkbheaadoor", sum := "fb20dba6e4804bb4ac15fb148b6759dda450d3874fc24908bcef1e771cb94c2b", func := "cylinder/cylinderlaw07.ModularCombine", spec := "modularCombine", unfollowed := true, recurses := true, named := ["math/bits.deBruijn32tab", "math/bits.overflowError"], apart := false, laid := [("math/bits.deBruijn32tab", laid_math_bits_deBruijn32tab)], narrowed := true }
def ModularCombineUptoSaid : Prop := modularCombineUptoRow.holds Tryd.pinned (OpenSpec.upto modularCombineSpec)

end Rows
end Go.Proofs.YtgmooidagkbheaaDoor
