/-
  The frame of this seat's rows: the table of the library as its initialiser lays it, read out of the row's condition; the start that meets it.
-/
import Derived.Test.YtgmooidagkbheaaDoorCards
import Derived.Test.YtgmooidagkbheaaDoorTie
import Derived.Test.YtgmooidagkbheaaDoorTz
import Derived.ProofKit
import Derived.LaidMore
import Derived.OpenShut
import Derived.Stop.Joined
import Derived.Lib.LaidTab
namespace Go.Proofs.YtgmooidagkbheaaDoor
open Go.ChangeShapes Go.WideShapes Go.ChangeAt Go.RowKit

theorem own : ownKnob Tryd.prog.godebug = none := by kernel_rfl

def laidTab : List (String × DataW Unit) := [("math/bits.deBruijn32tab", Rows.laid_math_bits_deBruijn32tab)]

theorem gTab : Tryd.prog.globalNamed "math/bits.deBruijn32tab" = some 0 := by kernel_rfl
theorem tTab : (Tryd.prog.globals[0]?).map (·.type) = some 99 := by kernel_rfl
theorem cells5 : Tryd.prog.cellsOf 5 = 1 := by kernel_rfl
theorem cellsTab : Tryd.prog.cellsOf 99 = 32 := by kernel_rfl

def tabInts : List Int := Lib.deBruijn32tab.map (fun n : Nat => (n : Int))
theorem laid_is : Rows.laid_math_bits_deBruijn32tab (H := Unit) = Lib.tabData .u8 tabInts := rfl

/-- The start that the program's own initialisers leave meets the condition. -/
theorem door_met (os : Os) (args : Array Value) : laidMetH Tryd.prog laidTab ((World.doorLaid Tryd.prog 400 os).forCall (fun _ _ => 0) ⟨#[], args, []⟩).memory :=
  laidMetH_of_parts3 (fuel := 8) (laidMet_of_run' 8 (by kernel_rfl) (by kernel_rfl)) (by kernel_rfl) (by kernel_rfl)

/-- What the condition gives the walks. -/
theorem tab_of_laid {W : World} (h : laidMetH Tryd.prog laidTab W) : TzTab W := by
  rw [MakeChecks.laidMetH_plain _ _ _ (by kernel_rfl)] at h
  have ht : Lib.TabIs Tryd.prog W "math/bits.deBruijn32tab" .u8 tabInts :=
    Lib.tabIs_of_head gTab tTab Tryd.underlying99 Tryd.underlying5 cells5 cellsTab (by unfold laidTab at h; rw [laid_is] at h; exact h)
  intro j hj
  have := ht.cell gTab j (by unfold tabInts Lib.deBruijn32tab; simpa using hj)
  rw [this]
  unfold tabInts
  congr 2
  rw [List.getD_eq_getElem?_getD, List.getD_eq_getElem?_getD, List.getElem?_map]
  cases Lib.deBruijn32tab[j]? <;> rfl

end Go.Proofs.YtgmooidagkbheaaDoor
