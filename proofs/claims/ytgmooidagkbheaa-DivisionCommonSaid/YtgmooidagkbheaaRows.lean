/-
  No cell of these rows narrows 'for every input' (looked for: loops, veiled, ifaces, maps, wideKeys, modest, calm, conditions, laid).
  DERIVED. THE GIVEN ROWS OF THIS SEAT. 7 by the template 'for every input the law returns true; each argument reads behind the call as it read before'; 0 by the template 'total and deterministic' (their statements: YtgmooidagkbheaaTotals.lean).
  GIVEN WITH THE SEED: the statements are not yours to turn. If you find one false, say at which input.
  Laid BY PROGRAM, IN A SANDBOX (cutbox-rows.mjs): the forced cells as the released guide's own fill.sh prints them over the translation ca3b92d1cf49d581… (all of the seat's roots in one cut). By AI agents, Wed Nov 11 2026. No macro, syntax, notation, axiom, sorry.
-/
import Derived.Test.YtgmooidagkbheaaChecked
import GoSem.Claim
import GoSem.ClaimJoined
import GoSem.ClaimMapViews
import Derived.JoinedTies
import Derived.KernelRfl
namespace Go.Proofs.Ytgmooidagkbheaa
/- THE CELL 'sum', in the pinned program and in every row, IS THE sha256 OF THE DUMP (.gsa) THAT YtgmooidagkbheaaProg.lean LOADS. Nothing in Lean hashes anything: it is a label: what it is worth is what the hold of that sum in a sandbox is worth. -/
noncomputable def Try.pinned : Pinned := { name := "ytgmooidagkbheaa", sum := "ca3b92d1cf49d58126c15f1ec5343f6f68847d8775e5ac3187f3eb18e48a612e", checked := Try.checked }
namespace Rows
def none {H : Type} : Left H := { results := [], args := [] }

/-- 'cylinderlaw03.DivisionQuotients': WHATEVER THE INPUT: true; the input reads as it did. -/
def divisionQuotientsSpec : ChangeSpec := { name := "divisionQuotients", fn := fun _ => fun
  | [d1, d2] => { results := [.lit (.bool true)], args := [d1, d2] }
  | _ => none }
def divisionQuotientsRow : OpenClaim := { program := "ytgmooidagkbheaa", sum := "ca3b92d1cf49d58126c15f1ec5343f6f68847d8775e5ac3187f3eb18e48a612e", func := "cylinder/cylinderlaw03.DivisionQuotients", spec := "divisionQuotients", unfollowed := true, recurses := true, named := ["math/bits.overflowError"], apart := false }
def DivisionQuotientsSaid : Prop := divisionQuotientsRow.holds Try.pinned (OpenSpec.ofChange divisionQuotientsSpec)

/-- ITS FALSE NEIGHBOUR: 'it returns false'. Refute it at one input. -/
def divisionQuotientsWrong : ChangeSpec := { name := "divisionQuotients", fn := fun _ => fun
  | [d1, d2] => { results := [.lit (.bool false)], args := [d1, d2] }
  | _ => none }
def DivisionQuotientsWrongFalsely : Prop := divisionQuotientsRow.holds Try.pinned (OpenSpec.ofChange divisionQuotientsWrong)

/-- 'cylinderlaw03.DivisionBack': WHATEVER THE INPUT: true; the input reads as it did. -/
def divisionBackSpec : ChangeSpec := { name := "divisionBack", fn := fun _ => fun
  | [d1, d2] => { results := [.lit (.bool true)], args := [d1, d2] }
  | _ => none }
def divisionBackRow : OpenClaim := { program := "ytgmooidagkbheaa", sum := "ca3b92d1cf49d58126c15f1ec5343f6f68847d8775e5ac3187f3eb18e48a612e", func := "cylinder/cylinderlaw03.DivisionBack", spec := "divisionBack", unfollowed := true, recurses := true, named := ["math/bits.overflowError"], apart := false }
def DivisionBackSaid : Prop := divisionBackRow.holds Try.pinned (OpenSpec.ofChange divisionBackSpec)

/-- ITS FALSE NEIGHBOUR: 'it returns false'. Refute it at one input. -/
def divisionBackWrong : ChangeSpec := { name := "divisionBack", fn := fun _ => fun
  | [d1, d2] => { results := [.lit (.bool false)], args := [d1, d2] }
  | _ => none }
def DivisionBackWrongFalsely : Prop := divisionBackRow.holds Try.pinned (OpenSpec.ofChange divisionBackWrong)

/-- 'cylinderlaw03.DivisionCommon': WHATEVER THE INPUT: true; the input reads as it did. -/
def divisionCommonSpec : ChangeSpec := { name := "divisionCommon", fn := fun _ => fun
  | [d1, d2, d3] => { results := [.lit (.bool true)], args := [d1, d2, d3] }
  | _ => none }
def divisionCommonRow : OpenClaim := { program := "ytgmooidagkbheaa", sum := "ca3b92d1cf49d58126c15f1ec5343f6f68847d8775e5ac3187f3eb18e48a612e", func := "cylinder/cylinderlaw03.DivisionCommon", spec := "divisionCommon", unfollowed := true, recurses := true, named := ["math/bits.overflowError"], apart := false }
def DivisionCommonSaid : Prop := divisionCommonRow.holds Try.pinned (OpenSpec.ofChange divisionCommonSpec)

/-- ITS FALSE NEIGHBOUR: 'it returns false'. Refute it at one input. -/
def divisionCommonWrong : ChangeSpec := { name := "divisionCommon", fn := fun _ => fun
  | [d1, d2, d3] => { results := [.lit (.bool false)], args := [d1, d2, d3] }
  | _ => none }
def DivisionCommonWrongFalsely : Prop := divisionCommonRow.holds Try.pinned (OpenSpec.ofChange divisionCommonWrong)

/-- 'cylinderlaw03.DivisionGcd': WHATEVER THE INPUT: true; the input reads as it did. -/
def divisionGcdSpec : ChangeSpec := { name := "divisionGcd", fn := fun _ => fun
  | [d1, d2, d3] => { results := [.lit (.bool true)], args := [d1, d2, d3] }
  | _ => none }
def divisionGcdRow : OpenClaim := { program := "ytgmooidagkbheaa", sum := "ca3b92d1cf49d58126c15f1ec5343f6f68847d8775e5ac3187f3eb18e48a612e", func := "cylinder/cylinderlaw03.DivisionGcd", spec := "divisionGcd", unfollowed := true, recurses := true, named := ["math/bits.overflowError"], apart := false }
def DivisionGcdSaid : Prop := divisionGcdRow.holds Try.pinned (OpenSpec.ofChange divisionGcdSpec)

/-- ITS FALSE NEIGHBOUR: 'it returns false'. Refute it at one input. -/
def divisionGcdWrong : ChangeSpec := { name := "divisionGcd", fn := fun _ => fun
  | [d1, d2, d3] => { results := [.lit (.bool false)], args := [d1, d2, d3] }
  | _ => none }
def DivisionGcdWrongFalsely : Prop := divisionGcdRow.holds Try.pinned (OpenSpec.ofChange divisionGcdWrong)

/-- 'cylinderlaw03.DivisionRounds': WHATEVER THE INPUT: true; the input reads as it did. -/
def divisionRoundsSpec : ChangeSpec := { name := "divisionRounds", fn := fun _ => fun
  | [d1, d2] => { results := [.lit (.bool true)], args := [d1, d2] }
  | _ => none }
def divisionRoundsRow : OpenClaim := { program := "ytgmooidagkbheaa", sum := "ca3b92d1cf49d58126c15f1ec5343f6f68847d8775e5ac3187f3eb18e48a612e", func := "cylinder/cylinderlaw03.DivisionRounds", spec := "divisionRounds", unfollowed := true, recurses := true, named := ["math/bits.overflowError"], apart := false }
def DivisionRoundsSaid : Prop := divisionRoundsRow.holds Try.pinned (OpenSpec.ofChange divisionRoundsSpec)

/-- ITS FALSE NEIGHBOUR: 'it returns false'. Refute it at one input. -/
def divisionRoundsWrong : ChangeSpec := { name := "divisionRounds", fn := fun _ => fun
  | [d1, d2] => { results := [.lit (.bool false)], args := [d1, d2] }
  | _ => none }
def DivisionRoundsWrongFalsely : Prop := divisionRoundsRow.holds Try.pinned (OpenSpec.ofChange divisionRoundsWrong)

/-- 'cylinderlaw03.DivisionXgcd': WHATEVER THE INPUT: true; the input reads as it did. -/
def divisionXgcdSpec : ChangeSpec := { name := "divisionXgcd", fn := fun _ => fun
  | [d1, d2] => { results := [.lit (.bool true)], args := [d1, d2] }
  | _ => none }
def divisionXgcdRow : OpenClaim := { program := "ytgmooidagkbheaa", sum := "ca3b92d1cf49d58126c15f1ec5343f6f68847d8775e5ac3187f3eb18e48a612e", func := "cylinder/cylinderlaw03.DivisionXgcd", spec := "divisionXgcd", unfollowed := true, recurses := true, named := ["math/bits.overflowError"], apart := false }
def DivisionXgcdSaid : Prop := divisionXgcdRow.holds Try.pinned (OpenSpec.ofChange divisionXgcdSpec)

/-- ITS FALSE NEIGHBOUR: 'it returns false'. Refute it at one input. -/
def divisionXgcdWrong : ChangeSpec := { name := "divisionXgcd", fn := fun _ => fun
  | [d1, d2] => { results := [.lit (.bool false)], args := [d1, d2] }
  | _ => none }
def DivisionXgcdWrongFalsely : Prop := divisionXgcdRow.holds Try.pinned (OpenSpec.ofChange divisionXgcdWrong)

/-- 'cylinderlaw03.DivisionRoots': WHATEVER THE INPUT: true; the input reads as it did. -/
def divisionRootsSpec : ChangeSpec := { name := "divisionRoots", fn := fun _ => fun
  | [d1, d2] => { results := [.lit (.bool true)], args := [d1, d2] }
  | _ => none }
def divisionRootsRow : OpenClaim := { program := "ytgmooidagkbheaa", sum := "ca3b92d1cf49d58126c15f1ec5343f6f68847d8775e5ac3187f3eb18e48a612e", func := "cylinder/cylinderlaw03.DivisionRoots", spec := "divisionRoots", unfollowed := true, recurses := true, named := ["math/bits.overflowError"], apart := false }
def DivisionRootsSaid : Prop := divisionRootsRow.holds Try.pinned (OpenSpec.ofChange divisionRootsSpec)

/-- ITS FALSE NEIGHBOUR: 'it returns false'. Refute it at one input. -/
def divisionRootsWrong : ChangeSpec := { name := "divisionRoots", fn := fun _ => fun
  | [d1, d2] => { results := [.lit (.bool false)], args := [d1, d2] }
  | _ => none }
def DivisionRootsWrongFalsely : Prop := divisionRootsRow.holds Try.pinned (OpenSpec.ofChange divisionRootsWrong)

/- THE SECOND FORM. 'bulk': how many values and letters a reading holds, each counted each time it is reached (what is shared counts as often as it is met; a slice's spare places count too). A statement '..UptoSaid' is the law's where the arguments, and the package variables that the reading takes, are together of bulk at most 1048576: NARROWER than '..Said'. Prove '..Said' where nothing that the law and all that it calls make is longer than what came in: it says more and counts as full. Else prove '..UptoSaid'. A law counts once. -/
mutual
def uptoBulk {H : Type} : DataW H → Nat
  | .lit (.string bytes) => bytes.length + 1
  | .lit _ => 1
  | .nil => 1
  | .ptr d => uptoBulk d + 1
  | .slice elems spare => uptoBulkAll elems + uptoBulkAll spare + 1
  | .agg parts => uptoBulkAll parts + 1
  | .iface _ d => uptoBulk d + 1
  | .map entries => uptoBulkEntries entries + 1
  | .held _ => 1
def uptoBulkAll {H : Type} : List (DataW H) → Nat
  | [] => 0
  | d :: r => uptoBulk d + uptoBulkAll r
def uptoBulkEntries {H : Type} : List (Lit × DataW H) → Nat
  | [] => 0
  | x :: r => uptoBulkEntry x + uptoBulkEntries r
def uptoBulkEntry {H : Type} : Lit × DataW H → Nat
  | (.string bytes, d) => bytes.length + uptoBulk d + 1
  | (_, d) => uptoBulk d + 1
 end
def uptoSmall : (H : Type) → List (DataW H) → Bool := fun _ ds => decide (uptoBulkAll ds ≤ 1048576)
def OpenSpec.upto (s : _root_.Go.ChangeSpec) : _root_.Go.OpenSpec := { _root_.Go.OpenSpec.ofChange s with cond := some uptoSmall }

/-- 'cylinderlaw03.DivisionQuotients', WHERE WHAT IT READS IS OF BULK AT MOST 1048576: true; the input reads as it did. -/
def divisionQuotientsUptoRow : OpenClaim := { program := "ytgmooidagkbheaa", sum := "ca3b92d1cf49d58126c15f1ec5343f6f68847d8775e5ac3187f3eb18e48a612e", func := "cylinder/cylinderlaw03.DivisionQuotients", spec := "divisionQuotients", unfollowed := true, recurses := true, named := ["math/bits.overflowError"], apart := false, narrowed := true }
def DivisionQuotientsUptoSaid : Prop := divisionQuotientsUptoRow.holds Try.pinned (OpenSpec.upto divisionQuotientsSpec)

/-- 'cylinderlaw03.DivisionBack', WHERE WHAT IT READS IS OF BULK AT MOST 1048576: true; the input reads as it did. -/
def divisionBackUptoRow : OpenClaim := { program := "ytgmooidagkbheaa", sum := "ca3b92d1cf49d58126c15f1ec5343f6f68847d8775e5ac3187f3eb18e48a612e", func := "cylinder/cylinderlaw03.DivisionBack", spec := "divisionBack", unfollowed := true, recurses := true, named := ["math/bits.overflowError"], apart := false, narrowed := true }
def DivisionBackUptoSaid : Prop := divisionBackUptoRow.holds Try.pinned (OpenSpec.upto divisionBackSpec)

/-- 'cylinderlaw03.DivisionCommon', WHERE WHAT IT READS IS OF BULK AT MOST 1048576: true; the input reads as it did. -/
def divisionCommonUptoRow : OpenClaim := { program := "ytgmooidagkbheaa", sum := "ca3b92d1cf49d58126c15f1ec5343f6f68847d8775e5ac3187f3eb18e48a612e", func := "cylinder/cylinderlaw03.DivisionCommon", spec := "divisionCommon", unfollowed := true, recurses := true, named := ["math/bits.overflowError"], apart := false, narrowed := true }
def DivisionCommonUptoSaid : Prop := divisionCommonUptoRow.holds Try.pinned (OpenSpec.upto divisionCommonSpec)

/-- 'cylinderlaw03.DivisionGcd', WHERE WHAT IT READS IS OF BULK AT MOST 1048576: true; the input reads as it did. -/
def divisionGcdUptoRow : OpenClaim := { program := "ytgmooidagkbheaa", sum := "ca3b92d1cf49d58126c15f1ec5343f6f68847d8775e5ac3187f3eb18e48a612e", func := "cylinder/cylinderlaw03.DivisionGcd", spec := "divisionGcd", unfollowed := true, recurses := true, named := ["math/bits.overflowError"], apart := false, narrowed := true }
def DivisionGcdUptoSaid : Prop := divisionGcdUptoRow.holds Try.pinned (OpenSpec.upto divisionGcdSpec)

/-- 'cylinderlaw03.DivisionRounds', WHERE WHAT IT READS IS OF BULK AT MOST 1048576: true; the input reads as it did. -/
def divisionRoundsUptoRow : OpenClaim := { program := "ytgmooidagkbheaa", sum := "ca3b92d1cf49d58126c15f1ec5343f6f68847d8775e5ac3187f3eb18e48a612e", func := "cylinder/cylinderlaw03.DivisionRounds", spec := "divisionRounds", unfollowed := true, recurses := true, named := ["math/bits.overflowError"], apart := false, narrowed := true }
def DivisionRoundsUptoSaid : Prop := divisionRoundsUptoRow.holds Try.pinned (OpenSpec.upto divisionRoundsSpec)

/-- 'cylinderlaw03.DivisionXgcd', WHERE WHAT IT READS IS OF BULK AT MOST 1048576: true; the input reads as it did. -/
def divisionXgcdUptoRow : OpenClaim := { program := "ytgmooidagkbheaa", sum := "ca3b92d1cf49d58126c15f1ec5343f6f68847d8775e5ac3187f3eb18e48a612e", func := "cylinder/cylinderlaw03.DivisionXgcd", spec := "divisionXgcd", unfollowed := true, recurses := true, named := ["math/bits.overflowError"], apart := false, narrowed := true }
def DivisionXgcdUptoSaid : Prop := divisionXgcdUptoRow.holds Try.pinned (OpenSpec.upto divisionXgcdSpec)

/-- 'cylinderlaw03.DivisionRoots', WHERE WHAT IT READS IS OF BULK AT MOST 1048576: true; the input reads as it did. -/
def divisionRootsUptoRow : OpenClaim := { program := "ytgmooidagkbheaa", sum := "ca3b92d1cf49d58126c15f1ec5343f6f68847d8775e5ac3187f3eb18e48a612e", func := "cylinder/cylinderlaw03.DivisionRoots", spec := "divisionRoots", unfollowed := true, recurses := true, named := ["math/bits.overflowError"], apart := false, narrowed := true }
def DivisionRootsUptoSaid : Prop := divisionRootsUptoRow.holds Try.pinned (OpenSpec.upto divisionRootsSpec)

end Rows
end Go.Proofs.Ytgmooidagkbheaa
