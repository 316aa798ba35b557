/-
  cylinderlaw07.ModularPrime returns true at every input: the walk.
-/
import Derived.Test.YtgmooidagkbheaaDoorIsP
import Derived.Test.YtgmooidagkbheaaDoorFit
import Derived.Test.YtgmooidagkbheaaDoorFrame
namespace Go.Proofs.YtgmooidagkbheaaDoor.prime
open Go.ChangeShapes Go.WideShapes Go.ChangeAt Go.RowKit
set_option linter.unusedVariables false

/-- A product of two numbers above 1 is no prime. -/
theorem not_prime_mul (a b : Nat) (ha : 1 < a) (hb : 1 < b) (h : a * b < 4294967296) : isPr (a * b) = false := by
  cases hc : isPr (a * b) with
  | false => rfl
  | true =>
    exfalso
    have hp := (isPr_iff _ h).1 hc
    rcases hp.2 a (Nat.dvd_mul_right a b) with h1 | h1
    · omega
    · have : a * 2 ≤ a * b := Nat.mul_le_mul_left a hb
      omega

theorem mul16 (a b : Nat) (ha : a < 65536) (hb : b < 65536) : a * b < 4294967296 := by
  have : a * b ≤ 65535 * 65535 := Nat.mul_le_mul (by omega) (by omega)
  omega

set_option maxHeartbeats 4000000 in
set_option maxRecDepth 100000 in
theorem walk (n a b : Nat) (hn : n < 4294967296) (ha : a < 65536) (hb : b < 65536) (w : World) (hT : TzTab w) :
    Calls Tryd.prog 5 #[.int .u32 n, .int .u16 a, .int .u16 b] w fun e w' => e = .returned (.bool true) ∧ Below w.heap.size w w' := by
  have HF := Lib.hid (fit_calls w hT)
  have HT := Lib.hid hT
  clear hT
  have HA := Lib.hid (fun w hw => isPr_calls n hn w hw)
  have HB := Lib.hid (fun w => refprime_calls n hn w)
  have HC := Lib.hid (fun w hw => isPr_calls a (by omega) w hw)
  have HD := Lib.hid (fun w => refprime_calls a (by omega) w)
  by_cases h1 : 1 < a ∧ 1 < b
  · obtain ⟨a1, b1⟩ := h1
    have hm := mul16 a b ha hb
    have HP := Lib.hid (fun w hw => isPr_calls (a * b) hm w hw)
    rw [not_prime_mul a b a1 b1 hm] at HP
    have e1 : Hid ((a : Int) * (b : Int) % 4294967296 = ((a * b : Nat) : Int)) := Lib.hid (by
      rw [show (a : Int) * (b : Int) = ((a * b : Nat) : Int) from by push_cast; rfl]
      omega)
    clear hm
    go_enter Tryd.func5, Tryd.ntmps5
    go_wp2_with fail
    refine (HF.out).mono ?_
    rintro e w1 ⟨rfl, hb1⟩
    have HT1 := Lib.hid (HT.out.below hb1)
    have HB1 := Lib.hid hb1
    clear hb1
    go_wp2_with fail
    rw [e1.out]
    refine (HP.out _ HT1.out).mono ?_
    rintro e w2 ⟨rfl, hb2⟩
    have HT2 := Lib.hid (HT1.out.below hb2)
    have HB2 := Lib.hid (HB1.out.trans (hb2.mono HB1.out.size))
    clear hb2
    go_wp2_with fail
    refine (HA.out _ HT2.out).mono ?_
    rintro e w3 ⟨rfl, hb3⟩
    have HT3 := Lib.hid (HT2.out.below hb3)
    have HB3 := Lib.hid (HB2.out.trans (hb3.mono HB2.out.size))
    clear hb3
    generalize isPr n = p1 at *
    go_wp2_with fail
    refine (HB.out _).mono ?_
    rintro e w4 ⟨rfl, hb4⟩
    have HT4 := Lib.hid (HT3.out.below hb4)
    have HB4 := Lib.hid (HB3.out.trans (hb4.mono HB3.out.size))
    clear hb4
    go_wp2_with fail
    refine (HC.out _ HT4.out).mono ?_
    rintro e w5 ⟨rfl, hb5⟩
    have HT5 := Lib.hid (HT4.out.below hb5)
    have HB5 := Lib.hid (HB4.out.trans (hb5.mono HB4.out.size))
    clear hb5
    generalize isPr a = p2 at *
    go_wp2_with fail
    refine (HD.out _).mono ?_
    rintro e w6 ⟨rfl, hb6⟩
    have HB6 := Lib.hid (HB5.out.trans (hb6.mono HB5.out.size))
    clear hb6
    go_wp2_with fail
    go_ret
    exact ⟨by simp, HB6.out⟩
  · have c0 : (1 < a ∧ ¬ 1 < b) ∨ ¬ 1 < a := by omega
    rcases c0 with ⟨a1, b1⟩ | a1
    all_goals
      go_enter Tryd.func5, Tryd.ntmps5
      go_wp2_with fail
      refine (HF.out).mono ?_
      rintro e w1 ⟨rfl, hb1⟩
      have HT1 := Lib.hid (HT.out.below hb1)
      have HB1 := Lib.hid hb1
      clear hb1
      go_wp2_with fail
      refine (HA.out _ HT1.out).mono ?_
      rintro e w3 ⟨rfl, hb3⟩
      have HT3 := Lib.hid (HT1.out.below hb3)
      have HB3 := Lib.hid (HB1.out.trans (hb3.mono HB1.out.size))
      clear hb3
      generalize isPr n = p1 at *
      go_wp2_with fail
      refine (HB.out _).mono ?_
      rintro e w4 ⟨rfl, hb4⟩
      have HT4 := Lib.hid (HT3.out.below hb4)
      have HB4 := Lib.hid (HB3.out.trans (hb4.mono HB3.out.size))
      clear hb4
      go_wp2_with fail
      refine (HC.out _ HT4.out).mono ?_
      rintro e w5 ⟨rfl, hb5⟩
      have HT5 := Lib.hid (HT4.out.below hb5)
      have HB5 := Lib.hid (HB4.out.trans (hb5.mono HB4.out.size))
      clear hb5
      generalize isPr a = p2 at *
      go_wp2_with fail
      refine (HD.out _).mono ?_
      rintro e w6 ⟨rfl, hb6⟩
      have HB6 := Lib.hid (HB5.out.trans (hb6.mono HB5.out.size))
      clear hb6
      go_wp2_with fail
      go_ret
      exact ⟨by simp, HB6.out⟩

end Go.Proofs.YtgmooidagkbheaaDoor.prime
