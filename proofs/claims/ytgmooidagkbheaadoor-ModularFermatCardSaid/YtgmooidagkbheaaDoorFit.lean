/-
  cylinderlaw07.fit, the check that every statement of layer 7 begins with, returns true.
-/
import Derived.Test.YtgmooidagkbheaaDoorIp
namespace Go.Proofs.YtgmooidagkbheaaDoor
open Go.RowKit Go.Proofs.YtgmooidagkbheaaDoorW.PrintWords
open PModularInverse
set_option linter.unusedVariables false

theorem inv37 (w : World) : Calls Tryd.prog 19 #[.int .u32 3, .int .u32 7] w fun e w' => e = .returned (.tuple #[.int .u32 5, .int .i64 0]) ∧ Below w.heap.size w w' :=
  modular_Inverse.calls 10 3 7 5 0 w (by decide +kernel)
theorem mul357 (w : World) : Calls Tryd.prog 17 #[.int .u32 3, .int .u32 5, .int .u32 7] w fun e w' => e = .returned (.int .u32 1) ∧ Below w.heap.size w w' :=
  modular_Mul.calls 3 5 7 1 w (by decide +kernel)
theorem isPr97 : isPr 97 = true := by decide +kernel
theorem isPr91 : isPr 91 = false := by decide +kernel
theorem ip97 (w : World) (hT : TzTab w) : Calls Tryd.prog 21 #[.int .u32 97] w fun e w' => e = .returned (.bool true) ∧ Below w.heap.size w w' := by
  have := isPr_calls 97 (by omega) w hT
  rw [isPr97] at this
  exact this
theorem ip91 (w : World) (hT : TzTab w) : Calls Tryd.prog 21 #[.int .u32 91] w fun e w' => e = .returned (.bool false) ∧ Below w.heap.size w w' := by
  have := isPr_calls 91 (by omega) w hT
  rw [isPr91] at this
  exact this

set_option maxHeartbeats 1000000 in
theorem fit_calls (w : World) (hT : TzTab w) : Calls Tryd.prog 14 #[] w fun e w' => e = .returned (.bool true) ∧ Below w.heap.size w w' := by
  have HT := Lib.hid hT
  clear hT
  go_enter Tryd.func14, Tryd.ntmps14
  go_wp2_with fail
  refine (inv37 _).mono ?_
  rintro e w1 ⟨rfl, hb1⟩
  have HB1 := Lib.hid hb1
  have HT1 := Lib.hid (HT.out.below hb1)
  clear hb1
  go_wp2_with fail
  refine (mul357 _).mono ?_
  rintro e w2 ⟨rfl, hb2⟩
  have HB2 := Lib.hid (HB1.out.trans (hb2.mono HB1.out.size))
  have HT2 := Lib.hid (HT1.out.below hb2)
  clear hb2
  go_wp2_with fail
  refine (ip97 _ HT2.out).mono ?_
  rintro e w3 ⟨rfl, hb3⟩
  have HB3 := Lib.hid (HB2.out.trans (hb3.mono HB2.out.size))
  have HT3 := Lib.hid (HT2.out.below hb3)
  clear hb3
  go_wp2_with fail
  refine (ip91 _ HT3.out).mono ?_
  rintro e w4 ⟨rfl, hb4⟩
  have HB4 := Lib.hid (HB3.out.trans (hb4.mono HB3.out.size))
  clear hb4
  go_wp2_with fail
  go_ret
  exact ⟨rfl, HB4.out⟩

end Go.Proofs.YtgmooidagkbheaaDoor
