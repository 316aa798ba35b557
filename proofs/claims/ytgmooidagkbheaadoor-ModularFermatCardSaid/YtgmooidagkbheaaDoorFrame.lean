/-
  The frame of this seat's rows: the table of the library as its initialiser lays it, read out of the row's condition; the start that meets it.
-/
import Derived.Test.YtgmooidagkbheaaDoorCards
import Derived.Test.YtgmooidagkbheaaDoorTie
import Derived.Test.YtgmooidagkbheaaDoorTz
import Derived.ProofKit
import Derived.LaidMore
import Derived.OpenShut
import Derived.Stop.Joined
import Derived.Lib.LaidTab
namespace Go.Proofs.YtgmooidagkbheaaDoor
open Go.ChangeShapes Go.WideShapes Go.ChangeAt Go.RowKit

theorem own : ownKnob Tryd.prog.godebug = none := by kernel_rfl

def laidTab : List (String × DataW Unit) := [("math/bits.deBruijn32tab", Rows.laid_math_bits_deBruijn32tab)]

theorem gTab : Tryd.prog.globalNamed "math/bits.deBruijn32tab" = some 0 := by kernel_rfl
theorem tTab : (Tryd.prog.globals[0]?).map (·.type) = some 99 := by kernel_rfl
theorem cells5 : Tryd.prog.cellsOf 5 = 1 := by kernel_rfl
theorem cellsTab : Tryd.prog.cellsOf 99 = 32 := by kernel_rfl

def tabInts : List Int := Lib.deBruijn32tab.map (fun n : Nat => (n : Int))
theorem laid_is : Rows.laid_math_bits_deBruijn32tab (H := Unit) = Lib.tabData .u8 tabInts := rfl

/-- The start that the program's own initialisers leave meets the condition. -/
theorem door_met (os : Os) (args : Array Value) : laidMetH Tryd.prog laidTab ((World.doorLaid Tryd.prog 400 os).forCall (fun _ _ => 0) ⟨#[], args, []⟩).memory :=
  laidMetH_of_parts3 (fuel := 8) (laidMet_of_run' 8 (by kernel_rfl) (by kernel_rfl)) (by kernel_rfl) (by kernel_rfl)

/-- What the condition gives the walks. -/
theorem tab_of_laid {W : World} (h : laidMetH Tryd.prog laidTab W) : TzTab W := by
  rw [MakeChecks.laidMetH_plain _ _ _ (by kernel_rfl)] at h
  have ht : Lib.TabIs Tryd.prog W "math/bits.deBruijn32tab" .u8 tabInts :=
    Lib.tabIs_of_head gTab tTab Tryd.underlying99 Tryd.underlying5 cells5 cellsTab (by unfold laidTab at h; rw [laid_is] at h; exact h)
  intro j hj
  have := ht.cell gTab j (by unfold tabInts Lib.deBruijn32tab; simpa using hj)
  rw [this]
  unfold tabInts
  congr 2
  rw [List.getD_eq_getElem?_getD, List.getD_eq_getElem?_getD, List.getElem?_map]
  cases Lib.deBruijn32tab[j]? <;> rfl

theorem laidOut : laidOutB Tryd.prog = true := by kernel_rfl

/-- An array of two integers, by value, opened. -/
theorem open_two {H : Type} {enc : TypeId × Value → H} {P : Program} {w : World} {base b0 : Nat} {spare : Nat → Bool} {held : Bool} {r : Reach} {t e : TypeId} {k : IntKind} {v : Value} {d : DataW H} {p : List MemPlace}
    (ht : P.underlying t = some (.array 2 e)) (he : P.underlying e = some (.int k)) (hC : P.cellsOf t = 2) (hE : P.cellsOf e = 1)
    (hv : Value.okWide P w r b0 t v) (h : DataW.Trod enc P w base spare held t v d p) : ∃ x y : Int, v = .agg #[.int k x, .int k y] ∧ (Lit.int k x).wf = true ∧ (Lit.int k y).wf = true := by
  simp only [Value.okWide, ht] at hv
  obtain ⟨cs, rfl, hsz, _⟩ := hv
  obtain ⟨fuel, hf⟩ := h
  obtain ⟨xs, m, rfl, hx, hl, hn, hall⟩ := DataW.trod_array ht hf
  have hsz2 : cs.size = 2 := by rw [hsz, hC]
  obtain ⟨c0, c1, rfl⟩ : ∃ c0 c1, cs = #[c0, c1] := by
    match cs, hsz2 with
    | ⟨[a, b]⟩, _ => exact ⟨a, b, rfl⟩
  match xs, hn with
  | [y0, y1], _ =>
    have h0 := hall 0 (by omega)
    have h1 := hall 1 (by omega)
    rw [hE] at h0 h1
    obtain ⟨n0, e0, _, w0⟩ := DataW.trod_int he (show DataW.trod enc P w base spare held m e [c0] = some y0 by simpa [Value.cells] using h0)
    obtain ⟨n1, e1, _, w1⟩ := DataW.trod_int he (show DataW.trod enc P w base spare held m e [c1] = some y1 by simpa [Value.cells] using h1)
    simp at e0 e1
    subst e0 e1
    exact ⟨n0, n1, rfl, w0, w1⟩

end Go.Proofs.YtgmooidagkbheaaDoor
