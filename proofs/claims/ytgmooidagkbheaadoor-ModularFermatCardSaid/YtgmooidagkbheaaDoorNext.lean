/-
  cylinderlaw07.ModularNext returns true at every input: the walk.
-/
import Derived.Test.YtgmooidagkbheaaDoorIsP
import Derived.Test.YtgmooidagkbheaaDoorSq
import Derived.Test.YtgmooidagkbheaaDoorFit
import Derived.Test.YtgmooidagkbheaaDoorFrame
namespace Go.Proofs.YtgmooidagkbheaaDoor
open Go.RowKit
set_option linter.unusedVariables false

noncomputable def mdiv (d : Nat) : Bool := Mr.bi (Nat.beq (Nat.mod 2147483647 d) 0) false true

theorem mdiv_all : Mr.lp mdiv 1 16 2 = true := by decide +kernel

/-- The greatest prime below 2^31. -/
theorem mersenne : Mr.Pr 2147483647 := by
  refine Mr.prime_of_trial _ (by decide) fun d h2 hd hdvd => ?_
  have hlt : d < 65536 := by
    rcases Nat.lt_or_ge d 65536 with h | h
    · exact h
    · have := Nat.mul_le_mul h h
      omega
  have h := Mr.lp_all 16 2 mdiv_all (d - 2) (by omega)
  rw [show 2 + 1 * (d - 2) = d from by omega] at h
  unfold mdiv at h
  rw [show Nat.mod 2147483647 d = 0 from Nat.mod_eq_zero_of_dvd hdvd] at h
  exact absurd h (by decide)

theorem is_mersenne : isPr 2147483647 = true := (isPr_iff _ (by decide)).2 mersenne

/-- Below the greatest prime there is a next one. -/
theorem np_small {n p c : Nat} (h : NP n p c) (hn : n < 2147483647) : c = 0 ∧ isPr p = true ∧ n < p ∧ p < 2147483648 ∧ ∀ k, n < k → k < p → isPr k = false := by
  rcases h with h | ⟨_, _, h⟩
  · exact h
  · exact absurd (h _ hn (by decide)) (by rw [is_mersenne]; decide)

theorem np_great {n p c : Nat} (h : NP n p c) (hn : 2147483647 ≤ n) : c = 4 ∧ p = 0 := by
  rcases h with ⟨_, _, h1, h2, _⟩ | ⟨h1, h2, _⟩
  · omega
  · exact ⟨h1, h2⟩

namespace next
open Go.ChangeShapes Go.WideShapes Go.ChangeAt

def left (p : Nat) (v : Value) : Nat := p - (intOf v).toNat

set_option maxHeartbeats 4000000 in
set_option maxRecDepth 100000 in
theorem walk (n : Nat) (hn : n < 4294967296) (w : World) (hT : TzTab w) :
    Calls Tryd.prog 7 #[.int .u32 n] w fun e w' => e = .returned (.bool true) ∧ Below w.heap.size w w' := by
  have HF := Lib.hid (fit_calls w hT)
  have HT := Lib.hid hT
  have HN := Lib.hid hn
  have HX := Lib.hid (fun w hw => next_calls n w hw)
  clear hT hn
  by_cases h1 : n < 2147483647
  · have H1 := Lib.hid h1
    have g1 : decide ((2147483647 : Int) ≤ (n : Int)) = false := decide_eq_false (by omega)
    have w0 : ((n : Int) + 1) % 4294967296 = (n : Int) + 1 := by have := H1.out; omega
    clear h1
    go_enter Tryd.func7, Tryd.ntmps7
    go_wp2_with fail
    refine (HF.out).mono ?_
    rintro e w1 ⟨rfl, hb1⟩
    have HT1 := Lib.hid (HT.out.below hb1)
    have HB1 := Lib.hid hb1
    clear hb1
    go_wp2_with fail
    refine (HX.out _ HT1.out).mono ?_
    rintro e w2 ⟨⟨p, c, rfl, hnp⟩, hb2⟩
    have HB2 := Lib.hid (HB1.out.trans (hb2.mono HB1.out.size))
    clear hb2
    obtain ⟨rfl, hp, hlt, hp2, hall⟩ := np_small hnp H1.out
    have HP := Lib.hid hp
    have HA := Lib.hid hall
    have HL := Lib.hid hlt
    have HP2 := Lib.hid hp2
    have g2 : decide (p ≤ n) = false := decide_eq_false (by omega)
    have g3 : decide ((2147483648 : Int) ≤ (p : Int)) = false := decide_eq_false (by omega)
    have HR := Lib.hid (fun w => refprime_calls p (by omega) w)
    rw [hp] at HR
    clear hnp hp hall hlt hp2
    obtain ⟨m, hm⟩ : ∃ m, n + 1 = m := ⟨_, rfl⟩
    have e1 : Hid ((n : Int) + 1 = (m : Int)) := Lib.hid (by omega)
    have HM := Lib.hid hm
    clear hm
    go_wp2_with fail
    refine (HR.out _).mono ?_
    rintro e w3 ⟨rfl, hb3⟩
    have HB3 := Lib.hid (HB2.out.trans (hb3.mono HB2.out.size))
    clear hb3
    go_wp2_with fail
    rw [e1.out]
    go_loopw [5] (fun q wr => ∃ k : Nat, q = .int .u32 k ∧ n < k ∧ k ≤ p ∧ Below w.heap.size w wr) (fun q wr => left p q)
    case atStart => exact ⟨m, rfl, by have := HM.out; omega, by have := HL.out; have := HM.out; omega, HB3.out⟩
    case round =>
      obtain ⟨k, rfl, hk1, hk2, hB⟩ := hrel
      have HB4 := Lib.hid hB
      have HK1 := Lib.hid hk1
      by_cases hk : k < p
      · have c1 : decide (k < p) = true := decide_eq_true (by omega)
        have HK := Lib.hid hk
        have HQ := Lib.hid (fun w => refprime_calls k (by have := HP2.out; omega) w)
        rw [HA.out k hk1 hk] at HQ
        have e2 : Hid ((k : Int) + 1 = ((k + 1 : Nat) : Int)) := Lib.hid (by omega)
        have e3 : ((k : Int) + 1) % 4294967296 = (k : Int) + 1 := by have := HP2.out; omega
        clear hB hk1 hk2 hk
        go_wp2_with fail
        refine (HQ.out _).mono ?_
        rintro e w5 ⟨rfl, hb5⟩
        have HB5 := Lib.hid (HB4.out.trans (hb5.mono HB4.out.size))
        clear hb5
        go_wp2_with fail
        try rw [e2.out]
        go_roundw
        case rel =>
          exact ⟨k + 1, rfl, by have := HK1.out; omega, by have := HK.out; omega, HB5.out⟩
        case measure => have := HK.out; unfold left intOf; simp only []; omega
      · have c1 : decide (k < p) = false := decide_eq_false (by omega)
        clear hB hk1 hk2 hk
        go_wp2_with fail
        go_ret
        exact ⟨rfl, HB4.out⟩
  · have H1 := Lib.hid h1
    have g1 : decide ((2147483647 : Int) ≤ (n : Int)) = true := decide_eq_true (by omega)
    clear h1
    go_enter Tryd.func7, Tryd.ntmps7
    go_wp2_with fail
    refine (HF.out).mono ?_
    rintro e w1 ⟨rfl, hb1⟩
    have HT1 := Lib.hid (HT.out.below hb1)
    have HB1 := Lib.hid hb1
    clear hb1
    go_wp2_with fail
    refine (HX.out _ HT1.out).mono ?_
    rintro e w2 ⟨⟨p, c, rfl, hnp⟩, hb2⟩
    have HB2 := Lib.hid (HB1.out.trans (hb2.mono HB1.out.size))
    clear hb2
    obtain ⟨rfl, rfl⟩ := np_great hnp (by have := H1.out; omega)
    clear hnp
    go_wp2_with fail
    go_ret
    exact ⟨rfl, HB2.out⟩

end next
end Go.Proofs.YtgmooidagkbheaaDoor
