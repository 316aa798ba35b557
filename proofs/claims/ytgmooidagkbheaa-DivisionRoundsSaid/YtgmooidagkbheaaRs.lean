/-
  cylinderlaw03.DivisionRounds returns true: Round is nearest with ties to even, Symmetric is the remainder nearest to 0.
-/
import Derived.Test.YtgmooidagkbheaaRnp
import Derived.Deep.DeepCutAuto
namespace Go.Proofs.Ytgmooidagkbheaa.rounds
open Go.RowKit Go.Proofs.YtgmooidagkbheaaW.PrintWords
set_option linter.unusedVariables false

set_option maxHeartbeats 4000000 in
set_option maxRecDepth 100000 in
theorem few_no (v1 v2 : Value) (g1 g2 : Bool) (l1 l2 : List Nat) (w : World) (h1 : Iv w v1 g1 l1) (h2 : Iv w v2 g2 l2) (hf : few3 10 l1.length l2.length l1.length = false) :
    Calls Try.prog 7 #[v1, v2] w fun e w' => e = .returned (.bool true) ∧ Below w.heap.size w w' := by
  obtain ⟨A1, c1, rfl, _, _, hs1⟩ := h1.open_
  obtain ⟨A2, c2, rfl, _, _, hs2⟩ := h2.open_
  have hbx := boxes2 w (.bool g1) (.slice A1 l1.length c1) (.bool g2) (.slice A2 l2.length c2)
  generalize hW : (w.alloc (.cells #[.bool g1, .slice A1 l1.length c1] 25)).alloc (.cells #[.bool g2, .slice A2 l2.length c2] 25) = W at hbx
  obtain ⟨hbw, ht0, ht1⟩ := hbx
  have T0 := Lib.hid ht0
  have T1 := Lib.hid ht1
  have I1 := Lib.hid (h1.below hbw)
  have I2 := Lib.hid (h2.below hbw)
  have HB := Lib.hid hbw
  have HW := Lib.hid hW
  have HFE := Lib.hid hf
  clear h1 h2 hs1 hs2 hbw ht0 ht1 hW hf
  have T0a := T0.out.c0
  have T0b := T0.out.c1
  have T1a := T1.out.c0
  have T1b := T1.out.c1
  go_enter Try.func7, Try.ntmps7
  go_wp2_with fail
  rw [HW.out]
  have HC1 := awake_calls W
  refine (HC1).mono ?_
  rintro e wc2 ⟨rfl, hb3⟩
  clear HC1
  clear T0a T0b T1a T1b
  replace T0 := Lib.hid (T0.out.keep hb3)
  replace T1 := Lib.hid (T1.out.keep hb3)
  replace I1 := Lib.hid (I1.out.below hb3)
  replace I2 := Lib.hid (I2.out.below hb3)
  replace HB := Lib.hid (HB.out.trans (hb3.mono HB.out.size))
  clear hb3
  have T0a := T0.out.c0
  have T0b := T0.out.c1
  have T1a := T1.out.c0
  have T1b := T1.out.c1
  go_wp2_with fail
  have HC4 := few_is 10 I1.out I2.out I1.out HFE.out
  refine (HC4).mono ?_
  rintro e wc5 ⟨rfl, hb6⟩
  clear HC4
  clear T0a T0b T1a T1b
  replace T0 := Lib.hid (T0.out.keep hb6)
  replace T1 := Lib.hid (T1.out.keep hb6)
  replace I1 := Lib.hid (I1.out.below hb6)
  replace I2 := Lib.hid (I2.out.below hb6)
  replace HB := Lib.hid (HB.out.trans (hb6.mono HB.out.size))
  clear hb6
  have T0a := T0.out.c0
  have T0b := T0.out.c1
  have T1a := T1.out.c0
  have T1b := T1.out.c1
  go_wp2_with fail
  have HC7 := awake_calls wc5
  refine (HC7).mono ?_
  rintro e wc8 ⟨rfl, hb9⟩
  clear HC7
  clear T0a T0b T1a T1b
  replace T0 := Lib.hid (T0.out.keep hb9)
  replace T1 := Lib.hid (T1.out.keep hb9)
  replace I1 := Lib.hid (I1.out.below hb9)
  replace I2 := Lib.hid (I2.out.below hb9)
  replace HB := Lib.hid (HB.out.trans (hb9.mono HB.out.size))
  clear hb9
  go_wp2_with fail
  go_ret
  exact ⟨rfl, HB.out⟩

set_option maxHeartbeats 4000000 in
set_option maxRecDepth 100000 in
theorem zero (v1 v2 : Value) (g1 g2 : Bool) (l1 l2 : List Nat) (w : World) (h1 : Iv w v1 g1 l1) (h2 : Iv w v2 g2 l2) (hf : few3 10 l1.length l2.length l1.length = true) (hz : iz g2 l2 = 0) :
    Calls Try.prog 7 #[v1, v2] w fun e w' => e = .returned (.bool true) ∧ Below w.heap.size w w' := by
  obtain ⟨A1, c1, rfl, _, _, hs1⟩ := h1.open_
  obtain ⟨A2, c2, rfl, _, _, hs2⟩ := h2.open_
  have hbx := boxes2 w (.bool g1) (.slice A1 l1.length c1) (.bool g2) (.slice A2 l2.length c2)
  generalize hW : (w.alloc (.cells #[.bool g1, .slice A1 l1.length c1] 25)).alloc (.cells #[.bool g2, .slice A2 l2.length c2] 25) = W at hbx
  obtain ⟨hbw, ht0, ht1⟩ := hbx
  have T0 := Lib.hid ht0
  have T1 := Lib.hid ht1
  have I1 := Lib.hid (h1.below hbw)
  have I2 := Lib.hid (h2.below hbw)
  have HB := Lib.hid hbw
  have HW := Lib.hid hW
  have HFE := Lib.hid hf
  clear h1 h2 hs1 hs2 hbw ht0 ht1 hW hf
  have hl := few3_true HFE.out
  have S1 := Lib.hid (I1.out.rd hl.1)
  have S2 := Lib.hid (I2.out.rd hl.2.1)
  have HS : Hid (Int.sign (iz g2 l2) = 0) := Lib.hid (by rw [hz]; rfl)
  have HZ := Lib.hid hz
  clear hl hz
  have T0a := T0.out.c0
  have T0b := T0.out.c1
  have T1a := T1.out.c0
  have T1b := T1.out.c1
  go_enter Try.func7, Try.ntmps7
  go_wp2_with fail
  rw [HW.out]
  have HC1 := awake_calls W
  refine (HC1).mono ?_
  rintro e wc2 ⟨rfl, hb3⟩
  clear HC1
  clear T0a T0b T1a T1b
  replace T0 := Lib.hid (T0.out.keep hb3)
  replace T1 := Lib.hid (T1.out.keep hb3)
  replace I1 := Lib.hid (I1.out.below hb3)
  replace I2 := Lib.hid (I2.out.below hb3)
  replace S1 := Lib.hid (S1.out.below hb3)
  replace S2 := Lib.hid (S2.out.below hb3)
  replace HB := Lib.hid (HB.out.trans (hb3.mono HB.out.size))
  clear hb3
  have T0a := T0.out.c0
  have T0b := T0.out.c1
  have T1a := T1.out.c0
  have T1b := T1.out.c1
  go_wp2_with fail
  have HC4 := few_is 10 I1.out I2.out I1.out HFE.out
  refine (HC4).mono ?_
  rintro e wc5 ⟨rfl, hb6⟩
  clear HC4
  clear T0a T0b T1a T1b
  replace T0 := Lib.hid (T0.out.keep hb6)
  replace T1 := Lib.hid (T1.out.keep hb6)
  replace I1 := Lib.hid (I1.out.below hb6)
  replace I2 := Lib.hid (I2.out.below hb6)
  replace S1 := Lib.hid (S1.out.below hb6)
  replace S2 := Lib.hid (S2.out.below hb6)
  replace HB := Lib.hid (HB.out.trans (hb6.mono HB.out.size))
  clear hb6
  have T0a := T0.out.c0
  have T0b := T0.out.c1
  have T1a := T1.out.c0
  have T1b := T1.out.c1
  go_wp2_with fail
  have HC7 := round0_rd S1.out S2.out HZ.out
  refine (HC7).mono ?_
  rintro e wc8 ⟨rfl, hb9⟩
  clear HC7
  clear T0a T0b T1a T1b
  replace T0 := Lib.hid (T0.out.keep hb9)
  replace T1 := Lib.hid (T1.out.keep hb9)
  replace I1 := Lib.hid (I1.out.below hb9)
  replace I2 := Lib.hid (I2.out.below hb9)
  replace S1 := Lib.hid (S1.out.below hb9)
  replace S2 := Lib.hid (S2.out.below hb9)
  replace HB := Lib.hid (HB.out.trans (hb9.mono HB.out.size))
  clear hb9
  have T0l := T0.out.lt
  have T0a := T0.out.c0
  have T0b := T0.out.c1
  have T1l := T1.out.lt
  have T1a := T1.out.c0
  have T1b := T1.out.c1
  go_wp2_with fail
  clear T0l T0a T0b T1l T1a T1b
  generalize ha11 : World.alloc (wc8) _ = wa10
  have hb12 : Below wc8.heap.size wc8 wa10 := by rw [← ha11]; exact (Below.refl _ _).alloc (Nat.le_refl _) _
  have T2 : Hid (Two wa10 (wc8.heap.size) (.bool false) (.slice none 0 0)) := Lib.hid (by rw [← ha11]; exact Two.made _ _ _)
  clear ha11
  replace T0 := Lib.hid (T0.out.keep hb12)
  replace T1 := Lib.hid (T1.out.keep hb12)
  replace I1 := Lib.hid (I1.out.below hb12)
  replace I2 := Lib.hid (I2.out.below hb12)
  replace S1 := Lib.hid (S1.out.below hb12)
  replace S2 := Lib.hid (S2.out.below hb12)
  replace HB := Lib.hid (HB.out.trans (hb12.mono HB.out.size))
  clear hb12
  have HC13 := symm0_rd S1.out S2.out HZ.out
  refine (HC13).mono ?_
  rintro e wc14 ⟨rfl, hb15⟩
  clear HC13
  replace T0 := Lib.hid (T0.out.keep hb15)
  replace T1 := Lib.hid (T1.out.keep hb15)
  replace T2 := Lib.hid (T2.out.keep hb15)
  replace I1 := Lib.hid (I1.out.below hb15)
  replace I2 := Lib.hid (I2.out.below hb15)
  replace S1 := Lib.hid (S1.out.below hb15)
  replace S2 := Lib.hid (S2.out.below hb15)
  replace HB := Lib.hid (HB.out.trans (hb15.mono HB.out.size))
  clear hb15
  have T0l := T0.out.lt
  have T0a := T0.out.c0
  have T0b := T0.out.c1
  have T1l := T1.out.lt
  have T1a := T1.out.c0
  have T1b := T1.out.c1
  go_wp2_with fail
  clear T0l T0a T0b T1l T1a T1b
  generalize ha17 : World.alloc (wc14) _ = wa16
  have hb18 : Below wc14.heap.size wc14 wa16 := by rw [← ha17]; exact (Below.refl _ _).alloc (Nat.le_refl _) _
  have T3 : Hid (Two wa16 (wc14.heap.size) (.bool false) (.slice none 0 0)) := Lib.hid (by rw [← ha17]; exact Two.made _ _ _)
  clear ha17
  replace T0 := Lib.hid (T0.out.keep hb18)
  replace T1 := Lib.hid (T1.out.keep hb18)
  replace T2 := Lib.hid (T2.out.keep hb18)
  replace I1 := Lib.hid (I1.out.below hb18)
  replace I2 := Lib.hid (I2.out.below hb18)
  replace S1 := Lib.hid (S1.out.below hb18)
  replace S2 := Lib.hid (S2.out.below hb18)
  replace HB := Lib.hid (HB.out.trans (hb18.mono HB.out.size))
  clear hb18
  have HC19 := sign_is S2.out HS.out
  refine (HC19).mono ?_
  rintro e wc20 ⟨rfl, hb21⟩
  clear HC19
  replace T0 := Lib.hid (T0.out.keep hb21)
  replace T1 := Lib.hid (T1.out.keep hb21)
  replace T2 := Lib.hid (T2.out.keep hb21)
  replace T3 := Lib.hid (T3.out.keep hb21)
  replace I1 := Lib.hid (I1.out.below hb21)
  replace I2 := Lib.hid (I2.out.below hb21)
  replace S1 := Lib.hid (S1.out.below hb21)
  replace S2 := Lib.hid (S2.out.below hb21)
  replace HB := Lib.hid (HB.out.trans (hb21.mono HB.out.size))
  clear hb21
  have T2a := T2.out.c0
  have T2b := T2.out.c1
  have T3a := T3.out.c0
  have T3b := T3.out.c1
  go_wp2_with fail
  have HC22 := zero_in (in_zero wc20) (b := true) (by decide)
  refine (HC22).mono ?_
  rintro e wc23 ⟨rfl, hb24⟩
  clear HC22
  clear T2a T2b T3a T3b
  replace T0 := Lib.hid (T0.out.keep hb24)
  replace T1 := Lib.hid (T1.out.keep hb24)
  replace T2 := Lib.hid (T2.out.keep hb24)
  replace T3 := Lib.hid (T3.out.keep hb24)
  replace I1 := Lib.hid (I1.out.below hb24)
  replace I2 := Lib.hid (I2.out.below hb24)
  replace S1 := Lib.hid (S1.out.below hb24)
  replace S2 := Lib.hid (S2.out.below hb24)
  replace HB := Lib.hid (HB.out.trans (hb24.mono HB.out.size))
  clear hb24
  have T2a := T2.out.c0
  have T2b := T2.out.c1
  have T3a := T3.out.c0
  have T3b := T3.out.c1
  go_wp2_with fail
  have HC25 := zero_in (in_zero wc23) (b := true) (by decide)
  refine (HC25).mono ?_
  rintro e wc26 ⟨rfl, hb27⟩
  clear HC25
  clear T2a T2b T3a T3b
  replace T0 := Lib.hid (T0.out.keep hb27)
  replace T1 := Lib.hid (T1.out.keep hb27)
  replace T2 := Lib.hid (T2.out.keep hb27)
  replace T3 := Lib.hid (T3.out.keep hb27)
  replace I1 := Lib.hid (I1.out.below hb27)
  replace I2 := Lib.hid (I2.out.below hb27)
  replace S1 := Lib.hid (S1.out.below hb27)
  replace S2 := Lib.hid (S2.out.below hb27)
  replace HB := Lib.hid (HB.out.trans (hb27.mono HB.out.size))
  clear hb27
  go_wp2_with fail
  go_ret
  exact ⟨rfl, HB.out⟩

set_option maxHeartbeats 8000000 in
set_option maxRecDepth 100000 in
theorem main_less (v1 v2 : Value) (g1 g2 : Bool) (l1 l2 : List Nat) (w : World) (h1 : Iv w v1 g1 l1) (h2 : Iv w v2 g2 l2) (hf : few3 10 l1.length l2.length l1.length = true) (hz : iz g2 l2 ≠ 0) (ht : ¬ ((iz g1 l1 - rn (iz g1 l1) (iz g2 l2) * iz g2 l2).natAbs : Int) + ((iz g1 l1 - rn (iz g1 l1) (iz g2 l2) * iz g2 l2).natAbs : Int) = ((iz g2 l2).natAbs : Int)) :
    Calls Try.prog 7 #[v1, v2] w fun e w' => e = .returned (.bool true) ∧ Below w.heap.size w w' := by
  obtain ⟨A1, c1, rfl, _, _, hs1⟩ := h1.open_
  obtain ⟨A2, c2, rfl, _, _, hs2⟩ := h2.open_
  have hbx := boxes2 w (.bool g1) (.slice A1 l1.length c1) (.bool g2) (.slice A2 l2.length c2)
  generalize hW : (w.alloc (.cells #[.bool g1, .slice A1 l1.length c1] 25)).alloc (.cells #[.bool g2, .slice A2 l2.length c2] 25) = W at hbx
  obtain ⟨hbw, ht0, ht1⟩ := hbx
  have T0 := Lib.hid ht0
  have T1 := Lib.hid ht1
  have I1 := Lib.hid (h1.below hbw)
  have I2 := Lib.hid (h2.below hbw)
  have HB := Lib.hid hbw
  have HW := Lib.hid hW
  have HFE := Lib.hid hf
  clear h1 h2 hs1 hs2 hbw ht0 ht1 hW hf
  have hl := few3_true HFE.out
  have S1 := Lib.hid (I1.out.rd hl.1)
  have S2 := Lib.hid (I2.out.rd hl.2.1)
  have Z1 := Lib.hid S1.out.sz
  have Z2 := Lib.hid S2.out.sz
  generalize iz g1 l1 = a at *
  generalize iz g2 l2 = b at *
  obtain ⟨sb, hsb⟩ : ∃ s, Int.sign b = s := ⟨_, rfl⟩
  have hsb0 : (sb == 0) = false := by
    rw [← hsb, sign_zero]
    simp [hz]
  have HSB := Lib.hid hsb
  have pf := rn_far a hz
  have ps := sy_near a hz
  have ZN : Hid (Sz 12 (rn a b)) := Lib.hid (Z1.out.rn hz)
  have ZS : Hid (Sz 11 (sy a b)) := Lib.hid (Z2.out.sy hz)
  generalize e1 : rn a b = n at *
  generalize e2 : sy a b = r at *
  have H1 := Lib.hid e1
  have H2 := Lib.hid e2
  have ZD : Hid (Sz 23 (a - n * b)) := Lib.hid ((Z1.out.mono (by decide)).sub (ZN.out.mul Z2.out))
  have HD : Hid (b ∣ a - r) := Lib.hid ps.2.2
  have HC : Hid (cmpZ (((a - n * b).natAbs : Int) + ((a - n * b).natAbs : Int)) (b.natAbs : Int) = (-1)) := Lib.hid (cmpZ_neg1 (by have := pf.1; omega))
  have HO : Hid True := Lib.hid trivial
  have hle := cmpZ_le (a := r + r) (b := (b.natAbs : Int)) (by have := ps.1; omega)
  obtain ⟨c, hc⟩ : ∃ c, cmpZ (r + r) (b.natAbs : Int) = c := ⟨_, rfl⟩
  rw [hc] at hle
  have HC2 := Lib.hid hc
  have hd0 : decide (c ≤ 0) = true := decide_eq_true hle
  have HC3 : Hid (cmpZ (r + r) (-(b.natAbs : Int)) = 1) := Lib.hid (cmpZ_one ps.2.1)
  have HDV : Hid (decide (b ∣ a - r) = true) := Lib.hid (decide_eq_true HD.out)
  have HZ := Lib.hid hz
  clear hl hz hsb pf ps e1 e2 ht hc HD
  have T0a := T0.out.c0
  have T0b := T0.out.c1
  have T1a := T1.out.c0
  have T1b := T1.out.c1
  go_enter Try.func7, Try.ntmps7
  go_wp2_with fail
  rw [HW.out]
  have HC1 := awake_calls W
  refine (HC1).mono ?_
  rintro e wc2 ⟨rfl, hb3⟩
  clear HC1
  clear T0a T0b T1a T1b
  replace T0 := Lib.hid (T0.out.keep hb3)
  replace T1 := Lib.hid (T1.out.keep hb3)
  replace I1 := Lib.hid (I1.out.below hb3)
  replace I2 := Lib.hid (I2.out.below hb3)
  replace S1 := Lib.hid (S1.out.below hb3)
  replace S2 := Lib.hid (S2.out.below hb3)
  replace HB := Lib.hid (HB.out.trans (hb3.mono HB.out.size))
  clear hb3
  have T0a := T0.out.c0
  have T0b := T0.out.c1
  have T1a := T1.out.c0
  have T1b := T1.out.c1
  go_wp2_with fail
  have HC4 := few_is 10 I1.out I2.out I1.out HFE.out
  refine (HC4).mono ?_
  rintro e wc5 ⟨rfl, hb6⟩
  clear HC4
  clear T0a T0b T1a T1b
  replace T0 := Lib.hid (T0.out.keep hb6)
  replace T1 := Lib.hid (T1.out.keep hb6)
  replace I1 := Lib.hid (I1.out.below hb6)
  replace I2 := Lib.hid (I2.out.below hb6)
  replace S1 := Lib.hid (S1.out.below hb6)
  replace S2 := Lib.hid (S2.out.below hb6)
  replace HB := Lib.hid (HB.out.trans (hb6.mono HB.out.size))
  clear hb6
  clear I1 I2 HFE
  have T0a := T0.out.c0
  have T0b := T0.out.c1
  have T1a := T1.out.c0
  have T1b := T1.out.c1
  go_wp2_with fail
  have HC7 := round_is S1.out S2.out (by decide) (by decide) HZ.out H1.out
  refine (HC7).mono ?_
  rintro e wc8 ⟨⟨u, rfl, hv10⟩, hb9⟩
  clear HC7
  obtain ⟨AN, ANn, ANc, rfl, hv10o⟩ := hv10.open_
  obtain ⟨dn, dnh⟩ : ∃ dn, decide (n < 0) = dn := ⟨_, rfl⟩
  rw [dnh] at hv10o ⊢
  clear hv10 dnh
  clear T0a T0b T1a T1b
  replace T0 := Lib.hid (T0.out.keep hb9)
  replace T1 := Lib.hid (T1.out.keep hb9)
  replace S1 := Lib.hid (S1.out.below hb9)
  replace S2 := Lib.hid (S2.out.below hb9)
  replace HB := Lib.hid (HB.out.trans (hb9.mono HB.out.size))
  clear hb9
  have N := Lib.hid (hv10o)
  clear hv10o
  have T0l := T0.out.lt
  have T0a := T0.out.c0
  have T0b := T0.out.c1
  have T1l := T1.out.lt
  have T1a := T1.out.c0
  have T1b := T1.out.c1
  go_wp2_with fail
  clear T0l T0a T0b T1l T1a T1b
  generalize ha12 : World.alloc (wc8) _ = wa11
  have hb13 : Below wc8.heap.size wc8 wa11 := by rw [← ha12]; exact (Below.refl _ _).alloc (Nat.le_refl _) _
  have T2 : Hid (Two wa11 (wc8.heap.size) (.bool dn) (.slice AN ANn ANc)) := Lib.hid (by rw [← ha12]; exact Two.made _ _ _)
  clear ha12
  replace T0 := Lib.hid (T0.out.keep hb13)
  replace T1 := Lib.hid (T1.out.keep hb13)
  replace S1 := Lib.hid (S1.out.below hb13)
  replace S2 := Lib.hid (S2.out.below hb13)
  replace N := Lib.hid (N.out.below hb13)
  replace HB := Lib.hid (HB.out.trans (hb13.mono HB.out.size))
  clear hb13
  have HC14 := symm_is S1.out S2.out (by decide) (by decide) HZ.out H2.out
  refine (HC14).mono ?_
  rintro e wc15 ⟨⟨u, rfl, hv17⟩, hb16⟩
  clear HC14
  obtain ⟨AR, ARn, ARc, rfl, hv17o⟩ := hv17.open_
  obtain ⟨dr, drh⟩ : ∃ dr, decide (r < 0) = dr := ⟨_, rfl⟩
  rw [drh] at hv17o ⊢
  clear hv17 drh
  replace T0 := Lib.hid (T0.out.keep hb16)
  replace T1 := Lib.hid (T1.out.keep hb16)
  replace T2 := Lib.hid (T2.out.keep hb16)
  replace S1 := Lib.hid (S1.out.below hb16)
  replace S2 := Lib.hid (S2.out.below hb16)
  replace N := Lib.hid (N.out.below hb16)
  replace HB := Lib.hid (HB.out.trans (hb16.mono HB.out.size))
  clear hb16
  have R := Lib.hid (hv17o)
  clear hv17o
  have T0l := T0.out.lt
  have T0a := T0.out.c0
  have T0b := T0.out.c1
  have T1l := T1.out.lt
  have T1a := T1.out.c0
  have T1b := T1.out.c1
  go_wp2_with fail
  clear T0l T0a T0b T1l T1a T1b
  generalize ha19 : World.alloc (wc15) _ = wa18
  have hb20 : Below wc15.heap.size wc15 wa18 := by rw [← ha19]; exact (Below.refl _ _).alloc (Nat.le_refl _) _
  have T3 : Hid (Two wa18 (wc15.heap.size) (.bool dr) (.slice AR ARn ARc)) := Lib.hid (by rw [← ha19]; exact Two.made _ _ _)
  clear ha19
  replace T0 := Lib.hid (T0.out.keep hb20)
  replace T1 := Lib.hid (T1.out.keep hb20)
  replace T2 := Lib.hid (T2.out.keep hb20)
  replace S1 := Lib.hid (S1.out.below hb20)
  replace S2 := Lib.hid (S2.out.below hb20)
  replace N := Lib.hid (N.out.below hb20)
  replace R := Lib.hid (R.out.below hb20)
  replace HB := Lib.hid (HB.out.trans (hb20.mono HB.out.size))
  clear hb20
  have HC21 := sign_is S2.out HSB.out
  refine (HC21).mono ?_
  rintro e wc22 ⟨rfl, hb23⟩
  clear HC21
  replace T0 := Lib.hid (T0.out.keep hb23)
  replace T1 := Lib.hid (T1.out.keep hb23)
  replace T2 := Lib.hid (T2.out.keep hb23)
  replace T3 := Lib.hid (T3.out.keep hb23)
  replace S1 := Lib.hid (S1.out.below hb23)
  replace S2 := Lib.hid (S2.out.below hb23)
  replace N := Lib.hid (N.out.below hb23)
  replace R := Lib.hid (R.out.below hb23)
  replace HB := Lib.hid (HB.out.trans (hb23.mono HB.out.size))
  clear hb23
  go_upto_region 7 with (fail)
  go_cut [9] (fun s9 wx => ∃ (gb0 : Nat) (dd : Bool) (AD : Option Addr) (ADn ADc : Nat), s9 = .pointer (some ⟨gb0, 0, none⟩) ∧ Two wx gb0 (.bool dd) (.slice AD ADn ADc) ∧ In wx (.agg #[.bool dd, .slice AD ADn ADc]) ((a - n * b).natAbs : Int) ∧ Two wx (w.heap.size) (.bool g1) (.slice A1 l1.length c1) ∧ Two wx (w.heap.size + 1) (.bool g2) (.slice A2 l2.length c2) ∧ Two wx (wc8.heap.size) (.bool dn) (.slice AN ANn ANc) ∧ Two wx (wc15.heap.size) (.bool dr) (.slice AR ARn ARc) ∧ Rd wx (.agg #[.bool g1, .slice A1 l1.length c1]) a 10 ∧ Rd wx (.agg #[.bool g2, .slice A2 l2.length c2]) b 10 ∧ In wx (.agg #[.bool dn, .slice AN ANn ANc]) n ∧ In wx (.agg #[.bool dr, .slice AR ARn ARc]) r ∧ Below w.heap.size w wx)
  case first =>
    have T0wa := T0.out.c0
    have T0wb := T0.out.c1
    have T1wa := T1.out.c0
    have T1wb := T1.out.c1
    have T2wa := T2.out.c0
    have T2wb := T2.out.c1
    replace T0 := Lib.hid T0.out.drew
    replace T1 := Lib.hid T1.out.drew
    replace T2 := Lib.hid T2.out.drew
    replace T3 := Lib.hid T3.out.drew
    replace S1 := Lib.hid S1.out.drew
    replace S2 := Lib.hid S2.out.drew
    replace N := Lib.hid N.out.drew
    replace R := Lib.hid R.out.drew
    replace HB := Lib.hid (below_drewN HB.out 1)
    have T0O := T0.out.lt
    have T0l := T0.out.lt
    have T1O := T1.out.lt
    have T1l := T1.out.lt
    have T2O := T2.out.lt
    have T2l := T2.out.lt
    have T3O := T3.out.lt
    have T3l := T3.out.lt
    simp only [World.drew] at T0O T0l T1O T1l T2O T2l T3O T3l
    have T0a := T0.out.c0
    have T0b := T0.out.c1
    have T1a := T1.out.c0
    have T1b := T1.out.c1
    have T2a := T2.out.c0
    have T2b := T2.out.c1
    go_region_held3 (fun w' => w'.cell? ⟨w.heap.size, 0, none⟩ = some (.bool g1) ∧ w'.cell? ⟨w.heap.size, 1, none⟩ = some (.slice A1 l1.length c1) ∧ w'.cell? ⟨w.heap.size + 1, 0, none⟩ = some (.bool g2) ∧ w'.cell? ⟨w.heap.size + 1, 1, none⟩ = some (.slice A2 l2.length c2) ∧ w'.cell? ⟨wc8.heap.size, 0, none⟩ = some (.bool dn) ∧ w'.cell? ⟨wc8.heap.size, 1, none⟩ = some (.slice AN ANn ANc))
      ((first | (refine ⟨?_, ?_, ?_, ?_, ?_, ?_⟩ <;> (with_reducible assumption)) | (refine ⟨?_, ?_, ?_, ?_, ?_, ?_⟩ <;> (repeat (first | (with_reducible assumption) | rw [two_cell _ _ _ _ _ _ (by omega)] | rw [cell_drew] | rw [cell_grow _ _ _ _ (by first | omega | (simp; omega))])))))
      (first
       | (go_at_call 29; with_reducible refine (imul_rd (N.out.rds ZN.out) S2.out (by decide) (by decide) (Or.inl (by decide))).mono ?_; rintro e wx ⟨⟨ux, rfl, hvx⟩, hbx⟩; obtain ⟨AP, APn, APc, rfl, hvy⟩ := hvx.open_; obtain ⟨dp, dph⟩ : ∃ dp, decide ((n * b) < 0) = dp := ⟨_, rfl⟩; rw [dph] at hvy ⊢; clear hvx dph
          have hn := hbx
          try replace N1 := Lib.hid (N1.out.keep hn)
          try replace N2 := Lib.hid (N2.out.keep hn)
          replace T0 := Lib.hid (T0.out.keep hn)
          replace T1 := Lib.hid (T1.out.keep hn)
          replace T2 := Lib.hid (T2.out.keep hn)
          replace T3 := Lib.hid (T3.out.keep hn)
          replace T0l := T0.out.lt
          replace T1l := T1.out.lt
          replace T2l := T2.out.lt
          replace T3l := T3.out.lt
          replace T0a := T0.out.c0
          replace T0b := T0.out.c1
          replace T1a := T1.out.c0
          replace T1b := T1.out.c1
          replace T2a := T2.out.c0
          replace T2b := T2.out.c1
          try (have N1a := N1.out.c0; have N1b := N1.out.c1; have N1f := N1.out.fz 0; have N1g := N1.out.fz 1; have N1l := N1.out.lt)
          try (have N2a := N2.out.c0; have N2b := N2.out.c1; have N2f := N2.out.fz 0; have N2g := N2.out.fz 1; have N2l := N2.out.lt)
          replace S1 := Lib.hid (S1.out.below hn)
          replace S2 := Lib.hid (S2.out.below hn)
          replace N := Lib.hid (N.out.below hn)
          replace R := Lib.hid (R.out.below hn)
          try replace P1 := Lib.hid (P1.out.below hn)
          try replace P2 := Lib.hid (P2.out.below hn)
          try replace D := Lib.hid (D.out.below hn)
          replace HB := Lib.hid (HB.out.trans (hn.mono HB.out.size))
          have P1 := Lib.hid hvy
          clear hvy
          clear hbx hn)
       | (go_at_call 29; with_reducible refine (imul_rd ((N.out.below (grow1 _ (.cells #[.bool false, .slice none 0 0] 25))).rds ZN.out) (S2.out.below (grow1 _ (.cells #[.bool false, .slice none 0 0] 25))) (by decide) (by decide) (Or.inl (by decide))).mono ?_; rintro e wx ⟨⟨ux, rfl, hvx⟩, hbx⟩; obtain ⟨AP, APn, APc, rfl, hvy⟩ := hvx.open_; obtain ⟨dp, dph⟩ : ∃ dp, decide ((n * b) < 0) = dp := ⟨_, rfl⟩; rw [dph] at hvy ⊢; clear hvx dph
          have T0P := T0l
          have T1P := T1l
          have T2P := T2l
          have T3P := T3l
          try have N1P := N1l
          have hn := Below.trans (grow1 _ (.cells #[.bool false, .slice none 0 0] 25)) (hbx.mono (Below.size (grow1 _ (.cells #[.bool false, .slice none 0 0] 25))))
          try replace N1 := Lib.hid (N1.out.keep hn)
          try replace N2 := Lib.hid (N2.out.keep hn)
          first | (have _x := N1.out; have N2 := Lib.hid ((Two.made _ (.bool false) (.slice none 0 0)).keep hbx); clear _x) | have N1 := Lib.hid ((Two.made _ (.bool false) (.slice none 0 0)).keep hbx)
          replace T0 := Lib.hid (T0.out.keep hn)
          replace T1 := Lib.hid (T1.out.keep hn)
          replace T2 := Lib.hid (T2.out.keep hn)
          replace T3 := Lib.hid (T3.out.keep hn)
          replace T0l := T0.out.lt
          replace T1l := T1.out.lt
          replace T2l := T2.out.lt
          replace T3l := T3.out.lt
          replace T0a := T0.out.c0
          replace T0b := T0.out.c1
          replace T1a := T1.out.c0
          replace T1b := T1.out.c1
          replace T2a := T2.out.c0
          replace T2b := T2.out.c1
          try (have N1a := N1.out.c0; have N1b := N1.out.c1; have N1f := N1.out.fz 0; have N1g := N1.out.fz 1; have N1l := N1.out.lt)
          try (have N2a := N2.out.c0; have N2b := N2.out.c1; have N2f := N2.out.fz 0; have N2g := N2.out.fz 1; have N2l := N2.out.lt)
          replace S1 := Lib.hid (S1.out.below hn)
          replace S2 := Lib.hid (S2.out.below hn)
          replace N := Lib.hid (N.out.below hn)
          replace R := Lib.hid (R.out.below hn)
          try replace P1 := Lib.hid (P1.out.below hn)
          try replace P2 := Lib.hid (P2.out.below hn)
          try replace D := Lib.hid (D.out.below hn)
          replace HB := Lib.hid (HB.out.trans (hn.mono HB.out.size))
          have P1 := Lib.hid hvy
          clear hvy
          clear hbx hn)
       | (go_at_call 29; with_reducible refine (imul_rd ((N.out.below (grow1d wc22 (.cells #[.bool false, .slice none 0 0] 25))).rds ZN.out) (S2.out.below (grow1d wc22 (.cells #[.bool false, .slice none 0 0] 25))) (by decide) (by decide) (Or.inl (by decide))).mono ?_; rintro e wx ⟨⟨ux, rfl, hvx⟩, hbx⟩; obtain ⟨AP, APn, APc, rfl, hvy⟩ := hvx.open_; obtain ⟨dp, dph⟩ : ∃ dp, decide ((n * b) < 0) = dp := ⟨_, rfl⟩; rw [dph] at hvy ⊢; clear hvx dph
          have T0P := T0l
          have T1P := T1l
          have T2P := T2l
          have T3P := T3l
          try have N1P := N1l
          have hn := Below.trans (grow1d wc22 (.cells #[.bool false, .slice none 0 0] 25)) (hbx.mono (Below.size (grow1d wc22 (.cells #[.bool false, .slice none 0 0] 25))))
          try replace N1 := Lib.hid (N1.out.keep hn)
          try replace N2 := Lib.hid (N2.out.keep hn)
          first | (have _x := N1.out; have N2 := Lib.hid ((Two.made _ (.bool false) (.slice none 0 0)).drew.keep hbx); clear _x) | have N1 := Lib.hid ((Two.made _ (.bool false) (.slice none 0 0)).drew.keep hbx)
          replace T0 := Lib.hid (T0.out.keep hn)
          replace T1 := Lib.hid (T1.out.keep hn)
          replace T2 := Lib.hid (T2.out.keep hn)
          replace T3 := Lib.hid (T3.out.keep hn)
          replace T0l := T0.out.lt
          replace T1l := T1.out.lt
          replace T2l := T2.out.lt
          replace T3l := T3.out.lt
          replace T0a := T0.out.c0
          replace T0b := T0.out.c1
          replace T1a := T1.out.c0
          replace T1b := T1.out.c1
          replace T2a := T2.out.c0
          replace T2b := T2.out.c1
          try (have N1a := N1.out.c0; have N1b := N1.out.c1; have N1f := N1.out.fz 0; have N1g := N1.out.fz 1; have N1l := N1.out.lt)
          try (have N2a := N2.out.c0; have N2b := N2.out.c1; have N2f := N2.out.fz 0; have N2g := N2.out.fz 1; have N2l := N2.out.lt)
          replace S1 := Lib.hid (S1.out.below hn)
          replace S2 := Lib.hid (S2.out.below hn)
          replace N := Lib.hid (N.out.below hn)
          replace R := Lib.hid (R.out.below hn)
          try replace P1 := Lib.hid (P1.out.below hn)
          try replace P2 := Lib.hid (P2.out.below hn)
          try replace D := Lib.hid (D.out.below hn)
          replace HB := Lib.hid (HB.out.trans (hn.mono HB.out.size))
          have P1 := Lib.hid hvy
          clear hvy
          clear hbx hn)
       | (go_at_call 37; with_reducible refine (isub_rd S1.out (P1.out.rds (ZN.out.mul Z2.out)) (by decide) (by decide)).mono ?_; rintro e wx ⟨⟨ux, rfl, hvx⟩, hbx⟩; obtain ⟨AQ, AQn, AQc, rfl, hvy⟩ := hvx.open_; obtain ⟨dq, dqh⟩ : ∃ dq, decide ((a - n * b) < 0) = dq := ⟨_, rfl⟩; rw [dqh] at hvy ⊢; clear hvx dqh
          have hn := hbx
          try replace N1 := Lib.hid (N1.out.keep hn)
          try replace N2 := Lib.hid (N2.out.keep hn)
          replace T0 := Lib.hid (T0.out.keep hn)
          replace T1 := Lib.hid (T1.out.keep hn)
          replace T2 := Lib.hid (T2.out.keep hn)
          replace T3 := Lib.hid (T3.out.keep hn)
          replace T0l := T0.out.lt
          replace T1l := T1.out.lt
          replace T2l := T2.out.lt
          replace T3l := T3.out.lt
          replace T0a := T0.out.c0
          replace T0b := T0.out.c1
          replace T1a := T1.out.c0
          replace T1b := T1.out.c1
          replace T2a := T2.out.c0
          replace T2b := T2.out.c1
          try (have N1a := N1.out.c0; have N1b := N1.out.c1; have N1f := N1.out.fz 0; have N1g := N1.out.fz 1; have N1l := N1.out.lt)
          try (have N2a := N2.out.c0; have N2b := N2.out.c1; have N2f := N2.out.fz 0; have N2g := N2.out.fz 1; have N2l := N2.out.lt)
          replace S1 := Lib.hid (S1.out.below hn)
          replace S2 := Lib.hid (S2.out.below hn)
          replace N := Lib.hid (N.out.below hn)
          replace R := Lib.hid (R.out.below hn)
          try replace P1 := Lib.hid (P1.out.below hn)
          try replace P2 := Lib.hid (P2.out.below hn)
          try replace D := Lib.hid (D.out.below hn)
          replace HB := Lib.hid (HB.out.trans (hn.mono HB.out.size))
          have P2 := Lib.hid hvy
          clear hvy
          clear hbx hn)
       | (go_at_call 37; with_reducible refine (isub_rd (S1.out.below (grow1 _ (.cells #[.bool false, .slice none 0 0] 25))) ((P1.out.below (grow1 _ (.cells #[.bool false, .slice none 0 0] 25))).rds (ZN.out.mul Z2.out)) (by decide) (by decide)).mono ?_; rintro e wx ⟨⟨ux, rfl, hvx⟩, hbx⟩; obtain ⟨AQ, AQn, AQc, rfl, hvy⟩ := hvx.open_; obtain ⟨dq, dqh⟩ : ∃ dq, decide ((a - n * b) < 0) = dq := ⟨_, rfl⟩; rw [dqh] at hvy ⊢; clear hvx dqh
          have T0P := T0l
          have T1P := T1l
          have T2P := T2l
          have T3P := T3l
          try have N1P := N1l
          have hn := Below.trans (grow1 _ (.cells #[.bool false, .slice none 0 0] 25)) (hbx.mono (Below.size (grow1 _ (.cells #[.bool false, .slice none 0 0] 25))))
          try replace N1 := Lib.hid (N1.out.keep hn)
          try replace N2 := Lib.hid (N2.out.keep hn)
          first | (have _x := N1.out; have N2 := Lib.hid ((Two.made _ (.bool false) (.slice none 0 0)).keep hbx); clear _x) | have N1 := Lib.hid ((Two.made _ (.bool false) (.slice none 0 0)).keep hbx)
          replace T0 := Lib.hid (T0.out.keep hn)
          replace T1 := Lib.hid (T1.out.keep hn)
          replace T2 := Lib.hid (T2.out.keep hn)
          replace T3 := Lib.hid (T3.out.keep hn)
          replace T0l := T0.out.lt
          replace T1l := T1.out.lt
          replace T2l := T2.out.lt
          replace T3l := T3.out.lt
          replace T0a := T0.out.c0
          replace T0b := T0.out.c1
          replace T1a := T1.out.c0
          replace T1b := T1.out.c1
          replace T2a := T2.out.c0
          replace T2b := T2.out.c1
          try (have N1a := N1.out.c0; have N1b := N1.out.c1; have N1f := N1.out.fz 0; have N1g := N1.out.fz 1; have N1l := N1.out.lt)
          try (have N2a := N2.out.c0; have N2b := N2.out.c1; have N2f := N2.out.fz 0; have N2g := N2.out.fz 1; have N2l := N2.out.lt)
          replace S1 := Lib.hid (S1.out.below hn)
          replace S2 := Lib.hid (S2.out.below hn)
          replace N := Lib.hid (N.out.below hn)
          replace R := Lib.hid (R.out.below hn)
          try replace P1 := Lib.hid (P1.out.below hn)
          try replace P2 := Lib.hid (P2.out.below hn)
          try replace D := Lib.hid (D.out.below hn)
          replace HB := Lib.hid (HB.out.trans (hn.mono HB.out.size))
          have P2 := Lib.hid hvy
          clear hvy
          clear hbx hn)
       | (go_at_call 37; with_reducible refine (isub_rd (S1.out.below (grow1d wc22 (.cells #[.bool false, .slice none 0 0] 25))) ((P1.out.below (grow1d wc22 (.cells #[.bool false, .slice none 0 0] 25))).rds (ZN.out.mul Z2.out)) (by decide) (by decide)).mono ?_; rintro e wx ⟨⟨ux, rfl, hvx⟩, hbx⟩; obtain ⟨AQ, AQn, AQc, rfl, hvy⟩ := hvx.open_; obtain ⟨dq, dqh⟩ : ∃ dq, decide ((a - n * b) < 0) = dq := ⟨_, rfl⟩; rw [dqh] at hvy ⊢; clear hvx dqh
          have T0P := T0l
          have T1P := T1l
          have T2P := T2l
          have T3P := T3l
          try have N1P := N1l
          have hn := Below.trans (grow1d wc22 (.cells #[.bool false, .slice none 0 0] 25)) (hbx.mono (Below.size (grow1d wc22 (.cells #[.bool false, .slice none 0 0] 25))))
          try replace N1 := Lib.hid (N1.out.keep hn)
          try replace N2 := Lib.hid (N2.out.keep hn)
          first | (have _x := N1.out; have N2 := Lib.hid ((Two.made _ (.bool false) (.slice none 0 0)).drew.keep hbx); clear _x) | have N1 := Lib.hid ((Two.made _ (.bool false) (.slice none 0 0)).drew.keep hbx)
          replace T0 := Lib.hid (T0.out.keep hn)
          replace T1 := Lib.hid (T1.out.keep hn)
          replace T2 := Lib.hid (T2.out.keep hn)
          replace T3 := Lib.hid (T3.out.keep hn)
          replace T0l := T0.out.lt
          replace T1l := T1.out.lt
          replace T2l := T2.out.lt
          replace T3l := T3.out.lt
          replace T0a := T0.out.c0
          replace T0b := T0.out.c1
          replace T1a := T1.out.c0
          replace T1b := T1.out.c1
          replace T2a := T2.out.c0
          replace T2b := T2.out.c1
          try (have N1a := N1.out.c0; have N1b := N1.out.c1; have N1f := N1.out.fz 0; have N1g := N1.out.fz 1; have N1l := N1.out.lt)
          try (have N2a := N2.out.c0; have N2b := N2.out.c1; have N2f := N2.out.fz 0; have N2g := N2.out.fz 1; have N2l := N2.out.lt)
          replace S1 := Lib.hid (S1.out.below hn)
          replace S2 := Lib.hid (S2.out.below hn)
          replace N := Lib.hid (N.out.below hn)
          replace R := Lib.hid (R.out.below hn)
          try replace P1 := Lib.hid (P1.out.below hn)
          try replace P2 := Lib.hid (P2.out.below hn)
          try replace D := Lib.hid (D.out.below hn)
          replace HB := Lib.hid (HB.out.trans (hn.mono HB.out.size))
          have P2 := Lib.hid hvy
          clear hvy
          clear hbx hn)
       | (go_at_call 26; with_reducible refine (iabs_rd (P2.out.rds ZD.out)).mono ?_; rintro e wx ⟨⟨ux, rfl, hvx⟩, hbx⟩; obtain ⟨AD, ADn, ADc, rfl, hvy⟩ := hvx.open_; obtain ⟨dd, ddh⟩ : ∃ dd, decide (((a - n * b).natAbs : Int) < 0) = dd := ⟨_, rfl⟩; rw [ddh] at hvy ⊢; clear hvx ddh
          have hn := hbx
          try replace N1 := Lib.hid (N1.out.keep hn)
          try replace N2 := Lib.hid (N2.out.keep hn)
          replace T0 := Lib.hid (T0.out.keep hn)
          replace T1 := Lib.hid (T1.out.keep hn)
          replace T2 := Lib.hid (T2.out.keep hn)
          replace T3 := Lib.hid (T3.out.keep hn)
          replace T0l := T0.out.lt
          replace T1l := T1.out.lt
          replace T2l := T2.out.lt
          replace T3l := T3.out.lt
          replace T0a := T0.out.c0
          replace T0b := T0.out.c1
          replace T1a := T1.out.c0
          replace T1b := T1.out.c1
          replace T2a := T2.out.c0
          replace T2b := T2.out.c1
          try (have N1a := N1.out.c0; have N1b := N1.out.c1; have N1f := N1.out.fz 0; have N1g := N1.out.fz 1; have N1l := N1.out.lt)
          try (have N2a := N2.out.c0; have N2b := N2.out.c1; have N2f := N2.out.fz 0; have N2g := N2.out.fz 1; have N2l := N2.out.lt)
          replace S1 := Lib.hid (S1.out.below hn)
          replace S2 := Lib.hid (S2.out.below hn)
          replace N := Lib.hid (N.out.below hn)
          replace R := Lib.hid (R.out.below hn)
          try replace P1 := Lib.hid (P1.out.below hn)
          try replace P2 := Lib.hid (P2.out.below hn)
          try replace D := Lib.hid (D.out.below hn)
          replace HB := Lib.hid (HB.out.trans (hn.mono HB.out.size))
          have D := Lib.hid hvy
          clear hvy
          clear hbx hn)
       | (go_at_call 26; with_reducible refine (iabs_rd ((P2.out.below (grow1 _ (.cells #[.bool false, .slice none 0 0] 25))).rds ZD.out)).mono ?_; rintro e wx ⟨⟨ux, rfl, hvx⟩, hbx⟩; obtain ⟨AD, ADn, ADc, rfl, hvy⟩ := hvx.open_; obtain ⟨dd, ddh⟩ : ∃ dd, decide (((a - n * b).natAbs : Int) < 0) = dd := ⟨_, rfl⟩; rw [ddh] at hvy ⊢; clear hvx ddh
          have T0P := T0l
          have T1P := T1l
          have T2P := T2l
          have T3P := T3l
          try have N1P := N1l
          have hn := Below.trans (grow1 _ (.cells #[.bool false, .slice none 0 0] 25)) (hbx.mono (Below.size (grow1 _ (.cells #[.bool false, .slice none 0 0] 25))))
          try replace N1 := Lib.hid (N1.out.keep hn)
          try replace N2 := Lib.hid (N2.out.keep hn)
          first | (have _x := N1.out; have N2 := Lib.hid ((Two.made _ (.bool false) (.slice none 0 0)).keep hbx); clear _x) | have N1 := Lib.hid ((Two.made _ (.bool false) (.slice none 0 0)).keep hbx)
          replace T0 := Lib.hid (T0.out.keep hn)
          replace T1 := Lib.hid (T1.out.keep hn)
          replace T2 := Lib.hid (T2.out.keep hn)
          replace T3 := Lib.hid (T3.out.keep hn)
          replace T0l := T0.out.lt
          replace T1l := T1.out.lt
          replace T2l := T2.out.lt
          replace T3l := T3.out.lt
          replace T0a := T0.out.c0
          replace T0b := T0.out.c1
          replace T1a := T1.out.c0
          replace T1b := T1.out.c1
          replace T2a := T2.out.c0
          replace T2b := T2.out.c1
          try (have N1a := N1.out.c0; have N1b := N1.out.c1; have N1f := N1.out.fz 0; have N1g := N1.out.fz 1; have N1l := N1.out.lt)
          try (have N2a := N2.out.c0; have N2b := N2.out.c1; have N2f := N2.out.fz 0; have N2g := N2.out.fz 1; have N2l := N2.out.lt)
          replace S1 := Lib.hid (S1.out.below hn)
          replace S2 := Lib.hid (S2.out.below hn)
          replace N := Lib.hid (N.out.below hn)
          replace R := Lib.hid (R.out.below hn)
          try replace P1 := Lib.hid (P1.out.below hn)
          try replace P2 := Lib.hid (P2.out.below hn)
          try replace D := Lib.hid (D.out.below hn)
          replace HB := Lib.hid (HB.out.trans (hn.mono HB.out.size))
          have D := Lib.hid hvy
          clear hvy
          clear hbx hn)
       | (go_at_call 26; with_reducible refine (iabs_rd ((P2.out.below (grow1d wc22 (.cells #[.bool false, .slice none 0 0] 25))).rds ZD.out)).mono ?_; rintro e wx ⟨⟨ux, rfl, hvx⟩, hbx⟩; obtain ⟨AD, ADn, ADc, rfl, hvy⟩ := hvx.open_; obtain ⟨dd, ddh⟩ : ∃ dd, decide (((a - n * b).natAbs : Int) < 0) = dd := ⟨_, rfl⟩; rw [ddh] at hvy ⊢; clear hvx ddh
          have T0P := T0l
          have T1P := T1l
          have T2P := T2l
          have T3P := T3l
          try have N1P := N1l
          have hn := Below.trans (grow1d wc22 (.cells #[.bool false, .slice none 0 0] 25)) (hbx.mono (Below.size (grow1d wc22 (.cells #[.bool false, .slice none 0 0] 25))))
          try replace N1 := Lib.hid (N1.out.keep hn)
          try replace N2 := Lib.hid (N2.out.keep hn)
          first | (have _x := N1.out; have N2 := Lib.hid ((Two.made _ (.bool false) (.slice none 0 0)).drew.keep hbx); clear _x) | have N1 := Lib.hid ((Two.made _ (.bool false) (.slice none 0 0)).drew.keep hbx)
          replace T0 := Lib.hid (T0.out.keep hn)
          replace T1 := Lib.hid (T1.out.keep hn)
          replace T2 := Lib.hid (T2.out.keep hn)
          replace T3 := Lib.hid (T3.out.keep hn)
          replace T0l := T0.out.lt
          replace T1l := T1.out.lt
          replace T2l := T2.out.lt
          replace T3l := T3.out.lt
          replace T0a := T0.out.c0
          replace T0b := T0.out.c1
          replace T1a := T1.out.c0
          replace T1b := T1.out.c1
          replace T2a := T2.out.c0
          replace T2b := T2.out.c1
          try (have N1a := N1.out.c0; have N1b := N1.out.c1; have N1f := N1.out.fz 0; have N1g := N1.out.fz 1; have N1l := N1.out.lt)
          try (have N2a := N2.out.c0; have N2b := N2.out.c1; have N2f := N2.out.fz 0; have N2g := N2.out.fz 1; have N2l := N2.out.lt)
          replace S1 := Lib.hid (S1.out.below hn)
          replace S2 := Lib.hid (S2.out.below hn)
          replace N := Lib.hid (N.out.below hn)
          replace R := Lib.hid (R.out.below hn)
          try replace P1 := Lib.hid (P1.out.below hn)
          try replace P2 := Lib.hid (P2.out.below hn)
          try replace D := Lib.hid (D.out.below hn)
          replace HB := Lib.hid (HB.out.trans (hn.mono HB.out.size))
          have D := Lib.hid hvy
          clear hvy
          clear hbx hn))
    all_goals
      rename_i hH
      clear hH
      go_wp2_with fail
      go_meet
      refine ⟨_, dd, AD, ADn, ADc, rfl, ?_, ?_, ?_, ?_, ?_, ?_, ?_, ?_, ?_, ?_, ?_⟩ <;> (repeat (first | with_reducible exact T0.out | with_reducible exact T1.out | with_reducible exact T2.out | with_reducible exact T3.out | with_reducible exact N1.out | with_reducible exact N2.out | with_reducible exact S1.out | with_reducible exact S2.out | with_reducible exact N.out | with_reducible exact R.out | with_reducible exact P1.out | with_reducible exact P2.out | with_reducible exact D.out | with_reducible exact HB.out | with_reducible exact Bs.of N1.out | with_reducible exact Bs.of N2.out | with_reducible exact Bs.of T0.out | with_reducible exact Bs.of T1.out | with_reducible exact Bs.of T2.out | with_reducible exact Bs.of T3.out | with_reducible refine Two.st ?_ _ _ | (with_reducible refine Two.ot ?_ ?hne _ _; case hne => omega) | (with_reducible refine Two.mk' ?_ _ _; (first | with_reducible rfl | omega | (simp; done))) | with_reducible refine Two.alloc ?_ _ | with_reducible refine Bs.same ?_ _ _ _ _ | (with_reducible refine Bs.ot ?_ ?hne _ _; case hne => omega) | (with_reducible refine Bs.mk' ?_ _ _ _ _; (first | with_reducible rfl | omega | (simp; done))) | with_reducible refine Bs.al ?_ _ | with_reducible refine In.st ?_ ?_ _ _ | with_reducible refine In.al ?_ _ | with_reducible refine Rd.st ?_ ?_ _ _ | with_reducible refine Rd.al ?_ _ | (with_reducible refine Below.st ?_ ?hne _ _; case hne => omega) | with_reducible refine Below.al ?_ _))
  case rest =>
    obtain ⟨gT4, dd, AD, ADn, ADc, rfl, T4p, Dp, T0p, T1p, T2p, T3p, S1p, S2p, Np, Rp, HBp⟩ := hcut
    replace T0 := Lib.hid T0p
    clear T0p
    replace T1 := Lib.hid T1p
    clear T1p
    replace T2 := Lib.hid T2p
    clear T2p
    replace T3 := Lib.hid T3p
    clear T3p
    replace S1 := Lib.hid S1p
    clear S1p
    replace S2 := Lib.hid S2p
    clear S2p
    replace N := Lib.hid Np
    clear Np
    replace R := Lib.hid Rp
    clear Rp
    replace HB := Lib.hid HBp
    clear HBp
    have T4 := Lib.hid T4p
    have D := Lib.hid Dp
    clear T4p Dp
    go_wp2_with fail
    replace T0 := Lib.hid T0.out.drew
    replace T1 := Lib.hid T1.out.drew
    replace T2 := Lib.hid T2.out.drew
    replace T3 := Lib.hid T3.out.drew
    replace T4 := Lib.hid T4.out.drew
    replace S1 := Lib.hid S1.out.drew
    replace S2 := Lib.hid S2.out.drew
    replace N := Lib.hid N.out.drew
    replace R := Lib.hid R.out.drew
    replace D := Lib.hid D.out.drew
    replace HB := Lib.hid (below_drewN HB.out 1)
    have T4a := T4.out.c0
    have T4b := T4.out.c1
    have T1a := T1.out.c0
    have T1b := T1.out.c1
    go_region_held3 (fun w' => w'.cell? ⟨gT4, 0, none⟩ = some (.bool dd) ∧ w'.cell? ⟨gT4, 1, none⟩ = some (.slice AD ADn ADc) ∧ w'.cell? ⟨w.heap.size + 1, 0, none⟩ = some (.bool g2) ∧ w'.cell? ⟨w.heap.size + 1, 1, none⟩ = some (.slice A2 l2.length c2))
      ((first | (refine ⟨?_, ?_, ?_, ?_⟩ <;> (with_reducible assumption))))
      (first
       | (go_at_call 28; with_reducible refine (iadd_rd (D.out.rds ZD.out.abs) (D.out.rds ZD.out.abs) (by decide) (by decide)).mono ?_; rintro e wy24 ⟨⟨ux, rfl, hvx⟩, hbx⟩; obtain ⟨AX, AXn, AXc, rfl, hvy⟩ := hvx.open_; obtain ⟨dx1, dx1h⟩ : ∃ dx1, decide ((((a - n * b).natAbs : Int) + ((a - n * b).natAbs : Int)) < 0) = dx1 := ⟨_, rfl⟩; rw [dx1h] at hvy ⊢; clear hvx dx1h
          replace T0 := Lib.hid (T0.out.keep hbx)
          replace T1 := Lib.hid (T1.out.keep hbx)
          replace T2 := Lib.hid (T2.out.keep hbx)
          replace T3 := Lib.hid (T3.out.keep hbx)
          replace T4 := Lib.hid (T4.out.keep hbx)
          replace T4a := T4.out.c0
          replace T4b := T4.out.c1
          replace T1a := T1.out.c0
          replace T1b := T1.out.c1
          replace S1 := Lib.hid (S1.out.below hbx)
          replace S2 := Lib.hid (S2.out.below hbx)
          replace N := Lib.hid (N.out.below hbx)
          replace R := Lib.hid (R.out.below hbx)
          replace D := Lib.hid (D.out.below hbx)
          try replace X1 := Lib.hid (X1.out.below hbx)
          try replace X2 := Lib.hid (X2.out.below hbx)
          replace HB := Lib.hid (HB.out.trans (hbx.mono HB.out.size))
          have X1 := Lib.hid hvy
          clear hvy
          clear hbx)
       | (go_at_call 26; with_reducible refine (iabs_rd S2.out).mono ?_; rintro e wy24 ⟨⟨ux, rfl, hvx⟩, hbx⟩; obtain ⟨AY, AYn, AYc, rfl, hvy⟩ := hvx.open_; obtain ⟨dx2, dx2h⟩ : ∃ dx2, decide ((b.natAbs : Int) < 0) = dx2 := ⟨_, rfl⟩; rw [dx2h] at hvy ⊢; clear hvx dx2h
          replace T0 := Lib.hid (T0.out.keep hbx)
          replace T1 := Lib.hid (T1.out.keep hbx)
          replace T2 := Lib.hid (T2.out.keep hbx)
          replace T3 := Lib.hid (T3.out.keep hbx)
          replace T4 := Lib.hid (T4.out.keep hbx)
          replace T4a := T4.out.c0
          replace T4b := T4.out.c1
          replace T1a := T1.out.c0
          replace T1b := T1.out.c1
          replace S1 := Lib.hid (S1.out.below hbx)
          replace S2 := Lib.hid (S2.out.below hbx)
          replace N := Lib.hid (N.out.below hbx)
          replace R := Lib.hid (R.out.below hbx)
          replace D := Lib.hid (D.out.below hbx)
          try replace X1 := Lib.hid (X1.out.below hbx)
          try replace X2 := Lib.hid (X2.out.below hbx)
          replace HB := Lib.hid (HB.out.trans (hbx.mono HB.out.size))
          have X2 := Lib.hid hvy
          clear hvy
          clear hbx)
       | (go_at_call 25; with_reducible refine (icmp_is (X1.out.rds (ZD.out.abs.add ZD.out.abs)) (X2.out.rds Z2.out.abs) HC.out).mono ?_; rintro e wy24 ⟨rfl, hbx⟩
          replace T0 := Lib.hid (T0.out.keep hbx)
          replace T1 := Lib.hid (T1.out.keep hbx)
          replace T2 := Lib.hid (T2.out.keep hbx)
          replace T3 := Lib.hid (T3.out.keep hbx)
          replace T4 := Lib.hid (T4.out.keep hbx)
          replace T4a := T4.out.c0
          replace T4b := T4.out.c1
          replace T1a := T1.out.c0
          replace T1b := T1.out.c1
          replace S1 := Lib.hid (S1.out.below hbx)
          replace S2 := Lib.hid (S2.out.below hbx)
          replace N := Lib.hid (N.out.below hbx)
          replace R := Lib.hid (R.out.below hbx)
          replace D := Lib.hid (D.out.below hbx)
          try replace X1 := Lib.hid (X1.out.below hbx)
          try replace X2 := Lib.hid (X2.out.below hbx)
          replace HB := Lib.hid (HB.out.trans (hbx.mono HB.out.size))
          clear hbx))
    all_goals
      rename_i hH
      clear hH
      clear X1 X2
      clear T4a T4b T1a T1b
      go_upto_region 11 with (fail)
      go_cut [11, 12] (fun s11 s12 wx => ∃ (gb0 : Nat) (dt : Bool) (AT : Option Addr) (ATn ATc : Nat) (gb1 : Nat) (dm : Bool) (AM : Option Addr) (AMn AMc : Nat), s11 = .pointer (some ⟨gb0, 0, none⟩) ∧ s12 = .pointer (some ⟨gb1, 0, none⟩) ∧ Two wx gb0 (.bool dt) (.slice AT ATn ATc) ∧ Two wx gb1 (.bool dm) (.slice AM AMn AMc) ∧ In wx (.agg #[.bool dt, .slice AT ATn ATc]) (r + r) ∧ In wx (.agg #[.bool dm, .slice AM AMn AMc]) (b.natAbs : Int) ∧ Two wx (w.heap.size) (.bool g1) (.slice A1 l1.length c1) ∧ Two wx (w.heap.size + 1) (.bool g2) (.slice A2 l2.length c2) ∧ Two wx (wc8.heap.size) (.bool dn) (.slice AN ANn ANc) ∧ Two wx (wc15.heap.size) (.bool dr) (.slice AR ARn ARc) ∧ Two wx (gT4) (.bool dd) (.slice AD ADn ADc) ∧ Rd wx (.agg #[.bool g1, .slice A1 l1.length c1]) a 10 ∧ Rd wx (.agg #[.bool g2, .slice A2 l2.length c2]) b 10 ∧ In wx (.agg #[.bool dn, .slice AN ANn ANc]) n ∧ In wx (.agg #[.bool dr, .slice AR ARn ARc]) r ∧ In wx (.agg #[.bool dd, .slice AD ADn ADc]) ((a - n * b).natAbs : Int) ∧ Below w.heap.size w wx)
      case first =>
        have T3wa := T3.out.c0
        have T3wb := T3.out.c1
        have T1wa := T1.out.c0
        have T1wb := T1.out.c1
        replace T0 := Lib.hid T0.out.drew
        replace T1 := Lib.hid T1.out.drew
        replace T2 := Lib.hid T2.out.drew
        replace T3 := Lib.hid T3.out.drew
        replace T4 := Lib.hid T4.out.drew
        replace S1 := Lib.hid S1.out.drew
        replace S2 := Lib.hid S2.out.drew
        replace N := Lib.hid N.out.drew
        replace R := Lib.hid R.out.drew
        replace D := Lib.hid D.out.drew
        replace HB := Lib.hid (below_drewN HB.out 1)
        have T0O := T0.out.lt
        have T0l := T0.out.lt
        have T1O := T1.out.lt
        have T1l := T1.out.lt
        have T2O := T2.out.lt
        have T2l := T2.out.lt
        have T3O := T3.out.lt
        have T3l := T3.out.lt
        have T4O := T4.out.lt
        have T4l := T4.out.lt
        simp only [World.drew] at T0O T0l T1O T1l T2O T2l T3O T3l T4O T4l
        have T3a := T3.out.c0
        have T3b := T3.out.c1
        have T1a := T1.out.c0
        have T1b := T1.out.c1
        go_region_held3 (fun w' => w'.cell? ⟨wc15.heap.size, 0, none⟩ = some (.bool dr) ∧ w'.cell? ⟨wc15.heap.size, 1, none⟩ = some (.slice AR ARn ARc) ∧ w'.cell? ⟨w.heap.size + 1, 0, none⟩ = some (.bool g2) ∧ w'.cell? ⟨w.heap.size + 1, 1, none⟩ = some (.slice A2 l2.length c2))
          ((first | (refine ⟨?_, ?_, ?_, ?_⟩ <;> (with_reducible assumption)) | (refine ⟨?_, ?_, ?_, ?_⟩ <;> (repeat (first | (with_reducible assumption) | rw [two_cell _ _ _ _ _ _ (by omega)] | rw [cell_drew] | rw [cell_grow _ _ _ _ (by first | omega | (simp; omega))])))))
          (first
           | (go_at_call 28; with_reducible refine (iadd_rd (R.out.rds ZS.out) (R.out.rds ZS.out) (by decide) (by decide)).mono ?_; rintro e wx ⟨⟨ux, rfl, hvx⟩, hbx⟩; obtain ⟨AT, ATn, ATc, rfl, hvy⟩ := hvx.open_; obtain ⟨dt, dth⟩ : ∃ dt, decide ((r + r) < 0) = dt := ⟨_, rfl⟩; rw [dth] at hvy ⊢; clear hvx dth
              have hn := hbx
              try replace N1 := Lib.hid (N1.out.keep hn)
              try replace N2 := Lib.hid (N2.out.keep hn)
              replace T0 := Lib.hid (T0.out.keep hn)
              replace T1 := Lib.hid (T1.out.keep hn)
              replace T2 := Lib.hid (T2.out.keep hn)
              replace T3 := Lib.hid (T3.out.keep hn)
              replace T4 := Lib.hid (T4.out.keep hn)
              replace T0l := T0.out.lt
              replace T1l := T1.out.lt
              replace T2l := T2.out.lt
              replace T3l := T3.out.lt
              replace T4l := T4.out.lt
              replace T3a := T3.out.c0
              replace T3b := T3.out.c1
              replace T1a := T1.out.c0
              replace T1b := T1.out.c1
              try (have N1a := N1.out.c0; have N1b := N1.out.c1; have N1f := N1.out.fz 0; have N1g := N1.out.fz 1; have N1l := N1.out.lt)
              try (have N2a := N2.out.c0; have N2b := N2.out.c1; have N2f := N2.out.fz 0; have N2g := N2.out.fz 1; have N2l := N2.out.lt)
              replace S1 := Lib.hid (S1.out.below hn)
              replace S2 := Lib.hid (S2.out.below hn)
              replace N := Lib.hid (N.out.below hn)
              replace R := Lib.hid (R.out.below hn)
              replace D := Lib.hid (D.out.below hn)
              try replace TW := Lib.hid (TW.out.below hn)
              try replace M := Lib.hid (M.out.below hn)
              replace HB := Lib.hid (HB.out.trans (hn.mono HB.out.size))
              have TW := Lib.hid hvy
              clear hvy
              clear hbx hn)
           | (go_at_call 28; with_reducible refine (iadd_rd ((R.out.below (grow1 _ (.cells #[.bool false, .slice none 0 0] 25))).rds ZS.out) ((R.out.below (grow1 _ (.cells #[.bool false, .slice none 0 0] 25))).rds ZS.out) (by decide) (by decide)).mono ?_; rintro e wx ⟨⟨ux, rfl, hvx⟩, hbx⟩; obtain ⟨AT, ATn, ATc, rfl, hvy⟩ := hvx.open_; obtain ⟨dt, dth⟩ : ∃ dt, decide ((r + r) < 0) = dt := ⟨_, rfl⟩; rw [dth] at hvy ⊢; clear hvx dth
              have T0P := T0l
              have T1P := T1l
              have T2P := T2l
              have T3P := T3l
              have T4P := T4l
              try have N1P := N1l
              have hn := Below.trans (grow1 _ (.cells #[.bool false, .slice none 0 0] 25)) (hbx.mono (Below.size (grow1 _ (.cells #[.bool false, .slice none 0 0] 25))))
              try replace N1 := Lib.hid (N1.out.keep hn)
              try replace N2 := Lib.hid (N2.out.keep hn)
              first | (have _x := N1.out; have N2 := Lib.hid ((Two.made _ (.bool false) (.slice none 0 0)).keep hbx); clear _x) | have N1 := Lib.hid ((Two.made _ (.bool false) (.slice none 0 0)).keep hbx)
              replace T0 := Lib.hid (T0.out.keep hn)
              replace T1 := Lib.hid (T1.out.keep hn)
              replace T2 := Lib.hid (T2.out.keep hn)
              replace T3 := Lib.hid (T3.out.keep hn)
              replace T4 := Lib.hid (T4.out.keep hn)
              replace T0l := T0.out.lt
              replace T1l := T1.out.lt
              replace T2l := T2.out.lt
              replace T3l := T3.out.lt
              replace T4l := T4.out.lt
              replace T3a := T3.out.c0
              replace T3b := T3.out.c1
              replace T1a := T1.out.c0
              replace T1b := T1.out.c1
              try (have N1a := N1.out.c0; have N1b := N1.out.c1; have N1f := N1.out.fz 0; have N1g := N1.out.fz 1; have N1l := N1.out.lt)
              try (have N2a := N2.out.c0; have N2b := N2.out.c1; have N2f := N2.out.fz 0; have N2g := N2.out.fz 1; have N2l := N2.out.lt)
              replace S1 := Lib.hid (S1.out.below hn)
              replace S2 := Lib.hid (S2.out.below hn)
              replace N := Lib.hid (N.out.below hn)
              replace R := Lib.hid (R.out.below hn)
              replace D := Lib.hid (D.out.below hn)
              try replace TW := Lib.hid (TW.out.below hn)
              try replace M := Lib.hid (M.out.below hn)
              replace HB := Lib.hid (HB.out.trans (hn.mono HB.out.size))
              have TW := Lib.hid hvy
              clear hvy
              clear hbx hn)
           | (go_at_call 28; with_reducible refine (iadd_rd ((R.out.below (grow2 _ (.cells #[.bool false, .slice none 0 0] 25) (.cells #[.bool false, .slice none 0 0] 25))).rds ZS.out) ((R.out.below (grow2 _ (.cells #[.bool false, .slice none 0 0] 25) (.cells #[.bool false, .slice none 0 0] 25))).rds ZS.out) (by decide) (by decide)).mono ?_; rintro e wx ⟨⟨ux, rfl, hvx⟩, hbx⟩; obtain ⟨AT, ATn, ATc, rfl, hvy⟩ := hvx.open_; obtain ⟨dt, dth⟩ : ∃ dt, decide ((r + r) < 0) = dt := ⟨_, rfl⟩; rw [dth] at hvy ⊢; clear hvx dth
              have T0P := T0l
              have T1P := T1l
              have T2P := T2l
              have T3P := T3l
              have T4P := T4l
              try have N1P := N1l
              have hn := Below.trans (grow2 _ (.cells #[.bool false, .slice none 0 0] 25) (.cells #[.bool false, .slice none 0 0] 25)) (hbx.mono (Below.size (grow2 _ (.cells #[.bool false, .slice none 0 0] 25) (.cells #[.bool false, .slice none 0 0] 25))))
              try replace N1 := Lib.hid (N1.out.keep hn)
              try replace N2 := Lib.hid (N2.out.keep hn)
              have N1 := Lib.hid (((Two.made _ (.bool false) (.slice none 0 0)).alloc (.cells #[.bool false, .slice none 0 0] 25)).keep hbx)
              have N2 := Lib.hid ((Two.made2 _ (.cells #[.bool false, .slice none 0 0] 25) (.bool false) (.slice none 0 0)).keep hbx)
              replace T0 := Lib.hid (T0.out.keep hn)
              replace T1 := Lib.hid (T1.out.keep hn)
              replace T2 := Lib.hid (T2.out.keep hn)
              replace T3 := Lib.hid (T3.out.keep hn)
              replace T4 := Lib.hid (T4.out.keep hn)
              replace T0l := T0.out.lt
              replace T1l := T1.out.lt
              replace T2l := T2.out.lt
              replace T3l := T3.out.lt
              replace T4l := T4.out.lt
              replace T3a := T3.out.c0
              replace T3b := T3.out.c1
              replace T1a := T1.out.c0
              replace T1b := T1.out.c1
              try (have N1a := N1.out.c0; have N1b := N1.out.c1; have N1f := N1.out.fz 0; have N1g := N1.out.fz 1; have N1l := N1.out.lt)
              try (have N2a := N2.out.c0; have N2b := N2.out.c1; have N2f := N2.out.fz 0; have N2g := N2.out.fz 1; have N2l := N2.out.lt)
              replace S1 := Lib.hid (S1.out.below hn)
              replace S2 := Lib.hid (S2.out.below hn)
              replace N := Lib.hid (N.out.below hn)
              replace R := Lib.hid (R.out.below hn)
              replace D := Lib.hid (D.out.below hn)
              try replace TW := Lib.hid (TW.out.below hn)
              try replace M := Lib.hid (M.out.below hn)
              replace HB := Lib.hid (HB.out.trans (hn.mono HB.out.size))
              have TW := Lib.hid hvy
              clear hvy
              clear hbx hn)
           | (go_at_call 28; with_reducible refine (iadd_rd ((R.out.below (grow1d wy24 (.cells #[.bool false, .slice none 0 0] 25))).rds ZS.out) ((R.out.below (grow1d wy24 (.cells #[.bool false, .slice none 0 0] 25))).rds ZS.out) (by decide) (by decide)).mono ?_; rintro e wx ⟨⟨ux, rfl, hvx⟩, hbx⟩; obtain ⟨AT, ATn, ATc, rfl, hvy⟩ := hvx.open_; obtain ⟨dt, dth⟩ : ∃ dt, decide ((r + r) < 0) = dt := ⟨_, rfl⟩; rw [dth] at hvy ⊢; clear hvx dth
              have T0P := T0l
              have T1P := T1l
              have T2P := T2l
              have T3P := T3l
              have T4P := T4l
              try have N1P := N1l
              have hn := Below.trans (grow1d wy24 (.cells #[.bool false, .slice none 0 0] 25)) (hbx.mono (Below.size (grow1d wy24 (.cells #[.bool false, .slice none 0 0] 25))))
              try replace N1 := Lib.hid (N1.out.keep hn)
              try replace N2 := Lib.hid (N2.out.keep hn)
              first | (have _x := N1.out; have N2 := Lib.hid ((Two.made _ (.bool false) (.slice none 0 0)).drew.keep hbx); clear _x) | have N1 := Lib.hid ((Two.made _ (.bool false) (.slice none 0 0)).drew.keep hbx)
              replace T0 := Lib.hid (T0.out.keep hn)
              replace T1 := Lib.hid (T1.out.keep hn)
              replace T2 := Lib.hid (T2.out.keep hn)
              replace T3 := Lib.hid (T3.out.keep hn)
              replace T4 := Lib.hid (T4.out.keep hn)
              replace T0l := T0.out.lt
              replace T1l := T1.out.lt
              replace T2l := T2.out.lt
              replace T3l := T3.out.lt
              replace T4l := T4.out.lt
              replace T3a := T3.out.c0
              replace T3b := T3.out.c1
              replace T1a := T1.out.c0
              replace T1b := T1.out.c1
              try (have N1a := N1.out.c0; have N1b := N1.out.c1; have N1f := N1.out.fz 0; have N1g := N1.out.fz 1; have N1l := N1.out.lt)
              try (have N2a := N2.out.c0; have N2b := N2.out.c1; have N2f := N2.out.fz 0; have N2g := N2.out.fz 1; have N2l := N2.out.lt)
              replace S1 := Lib.hid (S1.out.below hn)
              replace S2 := Lib.hid (S2.out.below hn)
              replace N := Lib.hid (N.out.below hn)
              replace R := Lib.hid (R.out.below hn)
              replace D := Lib.hid (D.out.below hn)
              try replace TW := Lib.hid (TW.out.below hn)
              try replace M := Lib.hid (M.out.below hn)
              replace HB := Lib.hid (HB.out.trans (hn.mono HB.out.size))
              have TW := Lib.hid hvy
              clear hvy
              clear hbx hn)
           | (go_at_call 28; with_reducible refine (iadd_rd ((R.out.below (grow2d wy24 (.cells #[.bool false, .slice none 0 0] 25) (.cells #[.bool false, .slice none 0 0] 25))).rds ZS.out) ((R.out.below (grow2d wy24 (.cells #[.bool false, .slice none 0 0] 25) (.cells #[.bool false, .slice none 0 0] 25))).rds ZS.out) (by decide) (by decide)).mono ?_; rintro e wx ⟨⟨ux, rfl, hvx⟩, hbx⟩; obtain ⟨AT, ATn, ATc, rfl, hvy⟩ := hvx.open_; obtain ⟨dt, dth⟩ : ∃ dt, decide ((r + r) < 0) = dt := ⟨_, rfl⟩; rw [dth] at hvy ⊢; clear hvx dth
              have T0P := T0l
              have T1P := T1l
              have T2P := T2l
              have T3P := T3l
              have T4P := T4l
              try have N1P := N1l
              have hn := Below.trans (grow2d wy24 (.cells #[.bool false, .slice none 0 0] 25) (.cells #[.bool false, .slice none 0 0] 25)) (hbx.mono (Below.size (grow2d wy24 (.cells #[.bool false, .slice none 0 0] 25) (.cells #[.bool false, .slice none 0 0] 25))))
              try replace N1 := Lib.hid (N1.out.keep hn)
              try replace N2 := Lib.hid (N2.out.keep hn)
              have N1 := Lib.hid (((Two.made _ (.bool false) (.slice none 0 0)).alloc (.cells #[.bool false, .slice none 0 0] 25)).drew.keep hbx)
              have N2 := Lib.hid ((Two.made2 _ (.cells #[.bool false, .slice none 0 0] 25) (.bool false) (.slice none 0 0)).drew.keep hbx)
              replace T0 := Lib.hid (T0.out.keep hn)
              replace T1 := Lib.hid (T1.out.keep hn)
              replace T2 := Lib.hid (T2.out.keep hn)
              replace T3 := Lib.hid (T3.out.keep hn)
              replace T4 := Lib.hid (T4.out.keep hn)
              replace T0l := T0.out.lt
              replace T1l := T1.out.lt
              replace T2l := T2.out.lt
              replace T3l := T3.out.lt
              replace T4l := T4.out.lt
              replace T3a := T3.out.c0
              replace T3b := T3.out.c1
              replace T1a := T1.out.c0
              replace T1b := T1.out.c1
              try (have N1a := N1.out.c0; have N1b := N1.out.c1; have N1f := N1.out.fz 0; have N1g := N1.out.fz 1; have N1l := N1.out.lt)
              try (have N2a := N2.out.c0; have N2b := N2.out.c1; have N2f := N2.out.fz 0; have N2g := N2.out.fz 1; have N2l := N2.out.lt)
              replace S1 := Lib.hid (S1.out.below hn)
              replace S2 := Lib.hid (S2.out.below hn)
              replace N := Lib.hid (N.out.below hn)
              replace R := Lib.hid (R.out.below hn)
              replace D := Lib.hid (D.out.below hn)
              try replace TW := Lib.hid (TW.out.below hn)
              try replace M := Lib.hid (M.out.below hn)
              replace HB := Lib.hid (HB.out.trans (hn.mono HB.out.size))
              have TW := Lib.hid hvy
              clear hvy
              clear hbx hn)
           | (go_at_call 26; with_reducible refine (iabs_rd S2.out).mono ?_; rintro e wx ⟨⟨ux, rfl, hvx⟩, hbx⟩; obtain ⟨AM, AMn, AMc, rfl, hvy⟩ := hvx.open_; obtain ⟨dm, dmh⟩ : ∃ dm, decide ((b.natAbs : Int) < 0) = dm := ⟨_, rfl⟩; rw [dmh] at hvy ⊢; clear hvx dmh
              have hn := hbx
              try replace N1 := Lib.hid (N1.out.keep hn)
              try replace N2 := Lib.hid (N2.out.keep hn)
              replace T0 := Lib.hid (T0.out.keep hn)
              replace T1 := Lib.hid (T1.out.keep hn)
              replace T2 := Lib.hid (T2.out.keep hn)
              replace T3 := Lib.hid (T3.out.keep hn)
              replace T4 := Lib.hid (T4.out.keep hn)
              replace T0l := T0.out.lt
              replace T1l := T1.out.lt
              replace T2l := T2.out.lt
              replace T3l := T3.out.lt
              replace T4l := T4.out.lt
              replace T3a := T3.out.c0
              replace T3b := T3.out.c1
              replace T1a := T1.out.c0
              replace T1b := T1.out.c1
              try (have N1a := N1.out.c0; have N1b := N1.out.c1; have N1f := N1.out.fz 0; have N1g := N1.out.fz 1; have N1l := N1.out.lt)
              try (have N2a := N2.out.c0; have N2b := N2.out.c1; have N2f := N2.out.fz 0; have N2g := N2.out.fz 1; have N2l := N2.out.lt)
              replace S1 := Lib.hid (S1.out.below hn)
              replace S2 := Lib.hid (S2.out.below hn)
              replace N := Lib.hid (N.out.below hn)
              replace R := Lib.hid (R.out.below hn)
              replace D := Lib.hid (D.out.below hn)
              try replace TW := Lib.hid (TW.out.below hn)
              try replace M := Lib.hid (M.out.below hn)
              replace HB := Lib.hid (HB.out.trans (hn.mono HB.out.size))
              have M := Lib.hid hvy
              clear hvy
              clear hbx hn)
           | (go_at_call 26; with_reducible refine (iabs_rd (S2.out.below (grow1 _ (.cells #[.bool false, .slice none 0 0] 25)))).mono ?_; rintro e wx ⟨⟨ux, rfl, hvx⟩, hbx⟩; obtain ⟨AM, AMn, AMc, rfl, hvy⟩ := hvx.open_; obtain ⟨dm, dmh⟩ : ∃ dm, decide ((b.natAbs : Int) < 0) = dm := ⟨_, rfl⟩; rw [dmh] at hvy ⊢; clear hvx dmh
              have T0P := T0l
              have T1P := T1l
              have T2P := T2l
              have T3P := T3l
              have T4P := T4l
              try have N1P := N1l
              have hn := Below.trans (grow1 _ (.cells #[.bool false, .slice none 0 0] 25)) (hbx.mono (Below.size (grow1 _ (.cells #[.bool false, .slice none 0 0] 25))))
              try replace N1 := Lib.hid (N1.out.keep hn)
              try replace N2 := Lib.hid (N2.out.keep hn)
              first | (have _x := N1.out; have N2 := Lib.hid ((Two.made _ (.bool false) (.slice none 0 0)).keep hbx); clear _x) | have N1 := Lib.hid ((Two.made _ (.bool false) (.slice none 0 0)).keep hbx)
              replace T0 := Lib.hid (T0.out.keep hn)
              replace T1 := Lib.hid (T1.out.keep hn)
              replace T2 := Lib.hid (T2.out.keep hn)
              replace T3 := Lib.hid (T3.out.keep hn)
              replace T4 := Lib.hid (T4.out.keep hn)
              replace T0l := T0.out.lt
              replace T1l := T1.out.lt
              replace T2l := T2.out.lt
              replace T3l := T3.out.lt
              replace T4l := T4.out.lt
              replace T3a := T3.out.c0
              replace T3b := T3.out.c1
              replace T1a := T1.out.c0
              replace T1b := T1.out.c1
              try (have N1a := N1.out.c0; have N1b := N1.out.c1; have N1f := N1.out.fz 0; have N1g := N1.out.fz 1; have N1l := N1.out.lt)
              try (have N2a := N2.out.c0; have N2b := N2.out.c1; have N2f := N2.out.fz 0; have N2g := N2.out.fz 1; have N2l := N2.out.lt)
              replace S1 := Lib.hid (S1.out.below hn)
              replace S2 := Lib.hid (S2.out.below hn)
              replace N := Lib.hid (N.out.below hn)
              replace R := Lib.hid (R.out.below hn)
              replace D := Lib.hid (D.out.below hn)
              try replace TW := Lib.hid (TW.out.below hn)
              try replace M := Lib.hid (M.out.below hn)
              replace HB := Lib.hid (HB.out.trans (hn.mono HB.out.size))
              have M := Lib.hid hvy
              clear hvy
              clear hbx hn)
           | (go_at_call 26; with_reducible refine (iabs_rd (S2.out.below (grow2 _ (.cells #[.bool false, .slice none 0 0] 25) (.cells #[.bool false, .slice none 0 0] 25)))).mono ?_; rintro e wx ⟨⟨ux, rfl, hvx⟩, hbx⟩; obtain ⟨AM, AMn, AMc, rfl, hvy⟩ := hvx.open_; obtain ⟨dm, dmh⟩ : ∃ dm, decide ((b.natAbs : Int) < 0) = dm := ⟨_, rfl⟩; rw [dmh] at hvy ⊢; clear hvx dmh
              have T0P := T0l
              have T1P := T1l
              have T2P := T2l
              have T3P := T3l
              have T4P := T4l
              try have N1P := N1l
              have hn := Below.trans (grow2 _ (.cells #[.bool false, .slice none 0 0] 25) (.cells #[.bool false, .slice none 0 0] 25)) (hbx.mono (Below.size (grow2 _ (.cells #[.bool false, .slice none 0 0] 25) (.cells #[.bool false, .slice none 0 0] 25))))
              try replace N1 := Lib.hid (N1.out.keep hn)
              try replace N2 := Lib.hid (N2.out.keep hn)
              have N1 := Lib.hid (((Two.made _ (.bool false) (.slice none 0 0)).alloc (.cells #[.bool false, .slice none 0 0] 25)).keep hbx)
              have N2 := Lib.hid ((Two.made2 _ (.cells #[.bool false, .slice none 0 0] 25) (.bool false) (.slice none 0 0)).keep hbx)
              replace T0 := Lib.hid (T0.out.keep hn)
              replace T1 := Lib.hid (T1.out.keep hn)
              replace T2 := Lib.hid (T2.out.keep hn)
              replace T3 := Lib.hid (T3.out.keep hn)
              replace T4 := Lib.hid (T4.out.keep hn)
              replace T0l := T0.out.lt
              replace T1l := T1.out.lt
              replace T2l := T2.out.lt
              replace T3l := T3.out.lt
              replace T4l := T4.out.lt
              replace T3a := T3.out.c0
              replace T3b := T3.out.c1
              replace T1a := T1.out.c0
              replace T1b := T1.out.c1
              try (have N1a := N1.out.c0; have N1b := N1.out.c1; have N1f := N1.out.fz 0; have N1g := N1.out.fz 1; have N1l := N1.out.lt)
              try (have N2a := N2.out.c0; have N2b := N2.out.c1; have N2f := N2.out.fz 0; have N2g := N2.out.fz 1; have N2l := N2.out.lt)
              replace S1 := Lib.hid (S1.out.below hn)
              replace S2 := Lib.hid (S2.out.below hn)
              replace N := Lib.hid (N.out.below hn)
              replace R := Lib.hid (R.out.below hn)
              replace D := Lib.hid (D.out.below hn)
              try replace TW := Lib.hid (TW.out.below hn)
              try replace M := Lib.hid (M.out.below hn)
              replace HB := Lib.hid (HB.out.trans (hn.mono HB.out.size))
              have M := Lib.hid hvy
              clear hvy
              clear hbx hn)
           | (go_at_call 26; with_reducible refine (iabs_rd (S2.out.below (grow1d wy24 (.cells #[.bool false, .slice none 0 0] 25)))).mono ?_; rintro e wx ⟨⟨ux, rfl, hvx⟩, hbx⟩; obtain ⟨AM, AMn, AMc, rfl, hvy⟩ := hvx.open_; obtain ⟨dm, dmh⟩ : ∃ dm, decide ((b.natAbs : Int) < 0) = dm := ⟨_, rfl⟩; rw [dmh] at hvy ⊢; clear hvx dmh
              have T0P := T0l
              have T1P := T1l
              have T2P := T2l
              have T3P := T3l
              have T4P := T4l
              try have N1P := N1l
              have hn := Below.trans (grow1d wy24 (.cells #[.bool false, .slice none 0 0] 25)) (hbx.mono (Below.size (grow1d wy24 (.cells #[.bool false, .slice none 0 0] 25))))
              try replace N1 := Lib.hid (N1.out.keep hn)
              try replace N2 := Lib.hid (N2.out.keep hn)
              first | (have _x := N1.out; have N2 := Lib.hid ((Two.made _ (.bool false) (.slice none 0 0)).drew.keep hbx); clear _x) | have N1 := Lib.hid ((Two.made _ (.bool false) (.slice none 0 0)).drew.keep hbx)
              replace T0 := Lib.hid (T0.out.keep hn)
              replace T1 := Lib.hid (T1.out.keep hn)
              replace T2 := Lib.hid (T2.out.keep hn)
              replace T3 := Lib.hid (T3.out.keep hn)
              replace T4 := Lib.hid (T4.out.keep hn)
              replace T0l := T0.out.lt
              replace T1l := T1.out.lt
              replace T2l := T2.out.lt
              replace T3l := T3.out.lt
              replace T4l := T4.out.lt
              replace T3a := T3.out.c0
              replace T3b := T3.out.c1
              replace T1a := T1.out.c0
              replace T1b := T1.out.c1
              try (have N1a := N1.out.c0; have N1b := N1.out.c1; have N1f := N1.out.fz 0; have N1g := N1.out.fz 1; have N1l := N1.out.lt)
              try (have N2a := N2.out.c0; have N2b := N2.out.c1; have N2f := N2.out.fz 0; have N2g := N2.out.fz 1; have N2l := N2.out.lt)
              replace S1 := Lib.hid (S1.out.below hn)
              replace S2 := Lib.hid (S2.out.below hn)
              replace N := Lib.hid (N.out.below hn)
              replace R := Lib.hid (R.out.below hn)
              replace D := Lib.hid (D.out.below hn)
              try replace TW := Lib.hid (TW.out.below hn)
              try replace M := Lib.hid (M.out.below hn)
              replace HB := Lib.hid (HB.out.trans (hn.mono HB.out.size))
              have M := Lib.hid hvy
              clear hvy
              clear hbx hn)
           | (go_at_call 26; with_reducible refine (iabs_rd (S2.out.below (grow2d wy24 (.cells #[.bool false, .slice none 0 0] 25) (.cells #[.bool false, .slice none 0 0] 25)))).mono ?_; rintro e wx ⟨⟨ux, rfl, hvx⟩, hbx⟩; obtain ⟨AM, AMn, AMc, rfl, hvy⟩ := hvx.open_; obtain ⟨dm, dmh⟩ : ∃ dm, decide ((b.natAbs : Int) < 0) = dm := ⟨_, rfl⟩; rw [dmh] at hvy ⊢; clear hvx dmh
              have T0P := T0l
              have T1P := T1l
              have T2P := T2l
              have T3P := T3l
              have T4P := T4l
              try have N1P := N1l
              have hn := Below.trans (grow2d wy24 (.cells #[.bool false, .slice none 0 0] 25) (.cells #[.bool false, .slice none 0 0] 25)) (hbx.mono (Below.size (grow2d wy24 (.cells #[.bool false, .slice none 0 0] 25) (.cells #[.bool false, .slice none 0 0] 25))))
              try replace N1 := Lib.hid (N1.out.keep hn)
              try replace N2 := Lib.hid (N2.out.keep hn)
              have N1 := Lib.hid (((Two.made _ (.bool false) (.slice none 0 0)).alloc (.cells #[.bool false, .slice none 0 0] 25)).drew.keep hbx)
              have N2 := Lib.hid ((Two.made2 _ (.cells #[.bool false, .slice none 0 0] 25) (.bool false) (.slice none 0 0)).drew.keep hbx)
              replace T0 := Lib.hid (T0.out.keep hn)
              replace T1 := Lib.hid (T1.out.keep hn)
              replace T2 := Lib.hid (T2.out.keep hn)
              replace T3 := Lib.hid (T3.out.keep hn)
              replace T4 := Lib.hid (T4.out.keep hn)
              replace T0l := T0.out.lt
              replace T1l := T1.out.lt
              replace T2l := T2.out.lt
              replace T3l := T3.out.lt
              replace T4l := T4.out.lt
              replace T3a := T3.out.c0
              replace T3b := T3.out.c1
              replace T1a := T1.out.c0
              replace T1b := T1.out.c1
              try (have N1a := N1.out.c0; have N1b := N1.out.c1; have N1f := N1.out.fz 0; have N1g := N1.out.fz 1; have N1l := N1.out.lt)
              try (have N2a := N2.out.c0; have N2b := N2.out.c1; have N2f := N2.out.fz 0; have N2g := N2.out.fz 1; have N2l := N2.out.lt)
              replace S1 := Lib.hid (S1.out.below hn)
              replace S2 := Lib.hid (S2.out.below hn)
              replace N := Lib.hid (N.out.below hn)
              replace R := Lib.hid (R.out.below hn)
              replace D := Lib.hid (D.out.below hn)
              try replace TW := Lib.hid (TW.out.below hn)
              try replace M := Lib.hid (M.out.below hn)
              replace HB := Lib.hid (HB.out.trans (hn.mono HB.out.size))
              have M := Lib.hid hvy
              clear hvy
              clear hbx hn))
        all_goals
          rename_i hH
          clear hH
          go_wp2_with fail
          go_meet
          refine ⟨_, dt, AT, ATn, ATc, _, dm, AM, AMn, AMc, rfl, rfl, ?_, ?_, ?_, ?_, ?_, ?_, ?_, ?_, ?_, ?_, ?_, ?_, ?_, ?_, ?_⟩ <;> (repeat (first | with_reducible exact T0.out | with_reducible exact T1.out | with_reducible exact T2.out | with_reducible exact T3.out | with_reducible exact T4.out | with_reducible exact N1.out | with_reducible exact N2.out | with_reducible exact S1.out | with_reducible exact S2.out | with_reducible exact N.out | with_reducible exact R.out | with_reducible exact D.out | with_reducible exact TW.out | with_reducible exact M.out | with_reducible exact HB.out | with_reducible exact Bs.of N1.out | with_reducible exact Bs.of N2.out | with_reducible exact Bs.of T0.out | with_reducible exact Bs.of T1.out | with_reducible exact Bs.of T2.out | with_reducible exact Bs.of T3.out | with_reducible exact Bs.of T4.out | with_reducible refine Two.st ?_ _ _ | (with_reducible refine Two.ot ?_ ?hne _ _; case hne => omega) | (with_reducible refine Two.mk' ?_ _ _; (first | with_reducible rfl | omega | (simp; done))) | with_reducible refine Two.alloc ?_ _ | with_reducible refine Bs.same ?_ _ _ _ _ | (with_reducible refine Bs.ot ?_ ?hne _ _; case hne => omega) | (with_reducible refine Bs.mk' ?_ _ _ _ _; (first | with_reducible rfl | omega | (simp; done))) | with_reducible refine Bs.al ?_ _ | with_reducible refine In.st ?_ ?_ _ _ | with_reducible refine In.al ?_ _ | with_reducible refine Rd.st ?_ ?_ _ _ | with_reducible refine Rd.al ?_ _ | (with_reducible refine Below.st ?_ ?hne _ _; case hne => omega) | with_reducible refine Below.al ?_ _))
      case rest =>
        obtain ⟨gT5, dt, AT, ATn, ATc, gT6, dm, AM, AMn, AMc, rfl, rfl, T5p, T6p, TWp, Mp, T0p, T1p, T2p, T3p, T4p, S1p, S2p, Np, Rp, Dp, HBp⟩ := hcut
        replace T0 := Lib.hid T0p
        clear T0p
        replace T1 := Lib.hid T1p
        clear T1p
        replace T2 := Lib.hid T2p
        clear T2p
        replace T3 := Lib.hid T3p
        clear T3p
        replace T4 := Lib.hid T4p
        clear T4p
        replace S1 := Lib.hid S1p
        clear S1p
        replace S2 := Lib.hid S2p
        clear S2p
        replace N := Lib.hid Np
        clear Np
        replace R := Lib.hid Rp
        clear Rp
        replace D := Lib.hid Dp
        clear Dp
        replace HB := Lib.hid HBp
        clear HBp
        have T5 := Lib.hid T5p
        have TW := Lib.hid TWp
        clear T5p TWp
        have T6 := Lib.hid T6p
        have M := Lib.hid Mp
        clear T6p Mp
        go_wp2_with fail
        replace T0 := Lib.hid T0.out.drew
        replace T1 := Lib.hid T1.out.drew
        replace T2 := Lib.hid T2.out.drew
        replace T3 := Lib.hid T3.out.drew
        replace T4 := Lib.hid T4.out.drew
        replace T5 := Lib.hid T5.out.drew
        replace T6 := Lib.hid T6.out.drew
        replace S1 := Lib.hid S1.out.drew
        replace S2 := Lib.hid S2.out.drew
        replace N := Lib.hid N.out.drew
        replace R := Lib.hid R.out.drew
        replace D := Lib.hid D.out.drew
        replace TW := Lib.hid TW.out.drew
        replace M := Lib.hid M.out.drew
        replace HB := Lib.hid (below_drewN HB.out 1)
        have T5a := T5.out.c0
        have T5b := T5.out.c1
        have T6a := T6.out.c0
        have T6b := T6.out.c1
        have T1a := T1.out.c0
        have T1b := T1.out.c1
        have T0a := T0.out.c0
        have T0b := T0.out.c1
        have T3a := T3.out.c0
        have T3b := T3.out.c1
        go_region_held3 (fun w' => w'.cell? ⟨gT5, 0, none⟩ = some (.bool dt) ∧ w'.cell? ⟨gT5, 1, none⟩ = some (.slice AT ATn ATc) ∧ w'.cell? ⟨gT6, 0, none⟩ = some (.bool dm) ∧ w'.cell? ⟨gT6, 1, none⟩ = some (.slice AM AMn AMc) ∧ w'.cell? ⟨w.heap.size + 1, 0, none⟩ = some (.bool g2) ∧ w'.cell? ⟨w.heap.size + 1, 1, none⟩ = some (.slice A2 l2.length c2) ∧ w'.cell? ⟨w.heap.size, 0, none⟩ = some (.bool g1) ∧ w'.cell? ⟨w.heap.size, 1, none⟩ = some (.slice A1 l1.length c1) ∧ w'.cell? ⟨wc15.heap.size, 0, none⟩ = some (.bool dr) ∧ w'.cell? ⟨wc15.heap.size, 1, none⟩ = some (.slice AR ARn ARc))
          ((first | (refine ⟨?_, ?_, ?_, ?_, ?_, ?_, ?_, ?_, ?_, ?_⟩ <;> (with_reducible assumption))))
          (first
           | (go_at_call 25; with_reducible refine (icmp_is (TW.out.rds (ZS.out.add ZS.out)) (M.out.rds Z2.out.abs) HC2.out).mono ?_; rintro e wy25 ⟨rfl, hbx⟩
              replace T0 := Lib.hid (T0.out.keep hbx)
              replace T1 := Lib.hid (T1.out.keep hbx)
              replace T2 := Lib.hid (T2.out.keep hbx)
              replace T3 := Lib.hid (T3.out.keep hbx)
              replace T4 := Lib.hid (T4.out.keep hbx)
              replace T5 := Lib.hid (T5.out.keep hbx)
              replace T6 := Lib.hid (T6.out.keep hbx)
              replace T5a := T5.out.c0
              replace T5b := T5.out.c1
              replace T6a := T6.out.c0
              replace T6b := T6.out.c1
              replace T1a := T1.out.c0
              replace T1b := T1.out.c1
              replace T0a := T0.out.c0
              replace T0b := T0.out.c1
              replace T3a := T3.out.c0
              replace T3b := T3.out.c1
              replace S1 := Lib.hid (S1.out.below hbx)
              replace S2 := Lib.hid (S2.out.below hbx)
              replace N := Lib.hid (N.out.below hbx)
              replace R := Lib.hid (R.out.below hbx)
              replace D := Lib.hid (D.out.below hbx)
              replace TW := Lib.hid (TW.out.below hbx)
              replace M := Lib.hid (M.out.below hbx)
              try replace X1 := Lib.hid (X1.out.below hbx)
              try replace X2 := Lib.hid (X2.out.below hbx)
              replace HB := Lib.hid (HB.out.trans (hbx.mono HB.out.size))
              clear hbx)
           | (go_at_call 32; with_reducible refine (ineg_rd (M.out.rds Z2.out.abs)).mono ?_; rintro e wy25 ⟨⟨ux, rfl, hvx⟩, hbx⟩; obtain ⟨AX, AXn, AXc, rfl, hvy⟩ := hvx.open_; obtain ⟨dx1, dx1h⟩ : ∃ dx1, decide ((-(b.natAbs : Int)) < 0) = dx1 := ⟨_, rfl⟩; rw [dx1h] at hvy ⊢; clear hvx dx1h
              replace T0 := Lib.hid (T0.out.keep hbx)
              replace T1 := Lib.hid (T1.out.keep hbx)
              replace T2 := Lib.hid (T2.out.keep hbx)
              replace T3 := Lib.hid (T3.out.keep hbx)
              replace T4 := Lib.hid (T4.out.keep hbx)
              replace T5 := Lib.hid (T5.out.keep hbx)
              replace T6 := Lib.hid (T6.out.keep hbx)
              replace T5a := T5.out.c0
              replace T5b := T5.out.c1
              replace T6a := T6.out.c0
              replace T6b := T6.out.c1
              replace T1a := T1.out.c0
              replace T1b := T1.out.c1
              replace T0a := T0.out.c0
              replace T0b := T0.out.c1
              replace T3a := T3.out.c0
              replace T3b := T3.out.c1
              replace S1 := Lib.hid (S1.out.below hbx)
              replace S2 := Lib.hid (S2.out.below hbx)
              replace N := Lib.hid (N.out.below hbx)
              replace R := Lib.hid (R.out.below hbx)
              replace D := Lib.hid (D.out.below hbx)
              replace TW := Lib.hid (TW.out.below hbx)
              replace M := Lib.hid (M.out.below hbx)
              try replace X1 := Lib.hid (X1.out.below hbx)
              try replace X2 := Lib.hid (X2.out.below hbx)
              replace HB := Lib.hid (HB.out.trans (hbx.mono HB.out.size))
              have X1 := Lib.hid hvy
              clear hvy
              clear hbx)
           | (go_at_call 25; with_reducible refine (icmp_is (TW.out.rds (ZS.out.add ZS.out)) (X1.out.rds Z2.out.abs.neg) HC3.out).mono ?_; rintro e wy25 ⟨rfl, hbx⟩
              replace T0 := Lib.hid (T0.out.keep hbx)
              replace T1 := Lib.hid (T1.out.keep hbx)
              replace T2 := Lib.hid (T2.out.keep hbx)
              replace T3 := Lib.hid (T3.out.keep hbx)
              replace T4 := Lib.hid (T4.out.keep hbx)
              replace T5 := Lib.hid (T5.out.keep hbx)
              replace T6 := Lib.hid (T6.out.keep hbx)
              replace T5a := T5.out.c0
              replace T5b := T5.out.c1
              replace T6a := T6.out.c0
              replace T6b := T6.out.c1
              replace T1a := T1.out.c0
              replace T1b := T1.out.c1
              replace T0a := T0.out.c0
              replace T0b := T0.out.c1
              replace T3a := T3.out.c0
              replace T3b := T3.out.c1
              replace S1 := Lib.hid (S1.out.below hbx)
              replace S2 := Lib.hid (S2.out.below hbx)
              replace N := Lib.hid (N.out.below hbx)
              replace R := Lib.hid (R.out.below hbx)
              replace D := Lib.hid (D.out.below hbx)
              replace TW := Lib.hid (TW.out.below hbx)
              replace M := Lib.hid (M.out.below hbx)
              try replace X1 := Lib.hid (X1.out.below hbx)
              try replace X2 := Lib.hid (X2.out.below hbx)
              replace HB := Lib.hid (HB.out.trans (hbx.mono HB.out.size))
              clear hbx)
           | (go_at_call 37; with_reducible refine (isub_rd S1.out (R.out.rds ZS.out) (by decide) (by decide)).mono ?_; rintro e wy25 ⟨⟨ux, rfl, hvx⟩, hbx⟩; obtain ⟨AY, AYn, AYc, rfl, hvy⟩ := hvx.open_; obtain ⟨dx2, dx2h⟩ : ∃ dx2, decide ((a - r) < 0) = dx2 := ⟨_, rfl⟩; rw [dx2h] at hvy ⊢; clear hvx dx2h
              replace T0 := Lib.hid (T0.out.keep hbx)
              replace T1 := Lib.hid (T1.out.keep hbx)
              replace T2 := Lib.hid (T2.out.keep hbx)
              replace T3 := Lib.hid (T3.out.keep hbx)
              replace T4 := Lib.hid (T4.out.keep hbx)
              replace T5 := Lib.hid (T5.out.keep hbx)
              replace T6 := Lib.hid (T6.out.keep hbx)
              replace T5a := T5.out.c0
              replace T5b := T5.out.c1
              replace T6a := T6.out.c0
              replace T6b := T6.out.c1
              replace T1a := T1.out.c0
              replace T1b := T1.out.c1
              replace T0a := T0.out.c0
              replace T0b := T0.out.c1
              replace T3a := T3.out.c0
              replace T3b := T3.out.c1
              replace S1 := Lib.hid (S1.out.below hbx)
              replace S2 := Lib.hid (S2.out.below hbx)
              replace N := Lib.hid (N.out.below hbx)
              replace R := Lib.hid (R.out.below hbx)
              replace D := Lib.hid (D.out.below hbx)
              replace TW := Lib.hid (TW.out.below hbx)
              replace M := Lib.hid (M.out.below hbx)
              try replace X1 := Lib.hid (X1.out.below hbx)
              try replace X2 := Lib.hid (X2.out.below hbx)
              replace HB := Lib.hid (HB.out.trans (hbx.mono HB.out.size))
              have X2 := Lib.hid hvy
              clear hvy
              clear hbx)
           | (go_at_call 17; with_reducible refine (divides_is S2.out (X2.out.rds (k := 12) ((Z1.out.mono (by decide)).sub ZS.out)) (by decide) (by decide) HDV.out).mono ?_; rintro e wy25 ⟨rfl, hbx⟩
              replace T0 := Lib.hid (T0.out.keep hbx)
              replace T1 := Lib.hid (T1.out.keep hbx)
              replace T2 := Lib.hid (T2.out.keep hbx)
              replace T3 := Lib.hid (T3.out.keep hbx)
              replace T4 := Lib.hid (T4.out.keep hbx)
              replace T5 := Lib.hid (T5.out.keep hbx)
              replace T6 := Lib.hid (T6.out.keep hbx)
              replace T5a := T5.out.c0
              replace T5b := T5.out.c1
              replace T6a := T6.out.c0
              replace T6b := T6.out.c1
              replace T1a := T1.out.c0
              replace T1b := T1.out.c1
              replace T0a := T0.out.c0
              replace T0b := T0.out.c1
              replace T3a := T3.out.c0
              replace T3b := T3.out.c1
              replace S1 := Lib.hid (S1.out.below hbx)
              replace S2 := Lib.hid (S2.out.below hbx)
              replace N := Lib.hid (N.out.below hbx)
              replace R := Lib.hid (R.out.below hbx)
              replace D := Lib.hid (D.out.below hbx)
              replace TW := Lib.hid (TW.out.below hbx)
              replace M := Lib.hid (M.out.below hbx)
              try replace X1 := Lib.hid (X1.out.below hbx)
              try replace X2 := Lib.hid (X2.out.below hbx)
              replace HB := Lib.hid (HB.out.trans (hbx.mono HB.out.size))
              clear hbx))
        all_goals
          rename_i hH
          clear hH
          go_wp2_with fail
          go_ret
          exact ⟨rfl, HB.out⟩

set_option maxHeartbeats 8000000 in
set_option maxRecDepth 100000 in
theorem main_tie (v1 v2 : Value) (g1 g2 : Bool) (l1 l2 : List Nat) (w : World) (h1 : Iv w v1 g1 l1) (h2 : Iv w v2 g2 l2) (hf : few3 10 l1.length l2.length l1.length = true) (hz : iz g2 l2 ≠ 0) (ht : ((iz g1 l1 - rn (iz g1 l1) (iz g2 l2) * iz g2 l2).natAbs : Int) + ((iz g1 l1 - rn (iz g1 l1) (iz g2 l2) * iz g2 l2).natAbs : Int) = ((iz g2 l2).natAbs : Int)) :
    Calls Try.prog 7 #[v1, v2] w fun e w' => e = .returned (.bool true) ∧ Below w.heap.size w w' := by
  obtain ⟨A1, c1, rfl, _, _, hs1⟩ := h1.open_
  obtain ⟨A2, c2, rfl, _, _, hs2⟩ := h2.open_
  have hbx := boxes2 w (.bool g1) (.slice A1 l1.length c1) (.bool g2) (.slice A2 l2.length c2)
  generalize hW : (w.alloc (.cells #[.bool g1, .slice A1 l1.length c1] 25)).alloc (.cells #[.bool g2, .slice A2 l2.length c2] 25) = W at hbx
  obtain ⟨hbw, ht0, ht1⟩ := hbx
  have T0 := Lib.hid ht0
  have T1 := Lib.hid ht1
  have I1 := Lib.hid (h1.below hbw)
  have I2 := Lib.hid (h2.below hbw)
  have HB := Lib.hid hbw
  have HW := Lib.hid hW
  have HFE := Lib.hid hf
  clear h1 h2 hs1 hs2 hbw ht0 ht1 hW hf
  have hl := few3_true HFE.out
  have S1 := Lib.hid (I1.out.rd hl.1)
  have S2 := Lib.hid (I2.out.rd hl.2.1)
  have Z1 := Lib.hid S1.out.sz
  have Z2 := Lib.hid S2.out.sz
  generalize iz g1 l1 = a at *
  generalize iz g2 l2 = b at *
  obtain ⟨sb, hsb⟩ : ∃ s, Int.sign b = s := ⟨_, rfl⟩
  have hsb0 : (sb == 0) = false := by
    rw [← hsb, sign_zero]
    simp [hz]
  have HSB := Lib.hid hsb
  have pf := rn_far a hz
  have ps := sy_near a hz
  have ZN : Hid (Sz 12 (rn a b)) := Lib.hid (Z1.out.rn hz)
  have ZS : Hid (Sz 11 (sy a b)) := Lib.hid (Z2.out.sy hz)
  generalize e1 : rn a b = n at *
  generalize e2 : sy a b = r at *
  have H1 := Lib.hid e1
  have H2 := Lib.hid e2
  have ZD : Hid (Sz 23 (a - n * b)) := Lib.hid ((Z1.out.mono (by decide)).sub (ZN.out.mul Z2.out))
  have HD : Hid (b ∣ a - r) := Lib.hid ps.2.2
  have HC : Hid (cmpZ (((a - n * b).natAbs : Int) + ((a - n * b).natAbs : Int)) (b.natAbs : Int) = 0) := Lib.hid (cmpZ_zero' ht.symm)
  have HO : Hid (decide (n % 2 = 1) = false) := Lib.hid (decide_eq_false (by have := pf.2 ht; omega))
  have hle := cmpZ_le (a := r + r) (b := (b.natAbs : Int)) (by have := ps.1; omega)
  obtain ⟨c, hc⟩ : ∃ c, cmpZ (r + r) (b.natAbs : Int) = c := ⟨_, rfl⟩
  rw [hc] at hle
  have HC2 := Lib.hid hc
  have hd0 : decide (c ≤ 0) = true := decide_eq_true hle
  have HC3 : Hid (cmpZ (r + r) (-(b.natAbs : Int)) = 1) := Lib.hid (cmpZ_one ps.2.1)
  have HDV : Hid (decide (b ∣ a - r) = true) := Lib.hid (decide_eq_true HD.out)
  have HZ := Lib.hid hz
  clear hl hz hsb pf ps e1 e2 ht hc HD
  have T0a := T0.out.c0
  have T0b := T0.out.c1
  have T1a := T1.out.c0
  have T1b := T1.out.c1
  go_enter Try.func7, Try.ntmps7
  go_wp2_with fail
  rw [HW.out]
  have HC1 := awake_calls W
  refine (HC1).mono ?_
  rintro e wc2 ⟨rfl, hb3⟩
  clear HC1
  clear T0a T0b T1a T1b
  replace T0 := Lib.hid (T0.out.keep hb3)
  replace T1 := Lib.hid (T1.out.keep hb3)
  replace I1 := Lib.hid (I1.out.below hb3)
  replace I2 := Lib.hid (I2.out.below hb3)
  replace S1 := Lib.hid (S1.out.below hb3)
  replace S2 := Lib.hid (S2.out.below hb3)
  replace HB := Lib.hid (HB.out.trans (hb3.mono HB.out.size))
  clear hb3
  have T0a := T0.out.c0
  have T0b := T0.out.c1
  have T1a := T1.out.c0
  have T1b := T1.out.c1
  go_wp2_with fail
  have HC4 := few_is 10 I1.out I2.out I1.out HFE.out
  refine (HC4).mono ?_
  rintro e wc5 ⟨rfl, hb6⟩
  clear HC4
  clear T0a T0b T1a T1b
  replace T0 := Lib.hid (T0.out.keep hb6)
  replace T1 := Lib.hid (T1.out.keep hb6)
  replace I1 := Lib.hid (I1.out.below hb6)
  replace I2 := Lib.hid (I2.out.below hb6)
  replace S1 := Lib.hid (S1.out.below hb6)
  replace S2 := Lib.hid (S2.out.below hb6)
  replace HB := Lib.hid (HB.out.trans (hb6.mono HB.out.size))
  clear hb6
  clear I1 I2 HFE
  have T0a := T0.out.c0
  have T0b := T0.out.c1
  have T1a := T1.out.c0
  have T1b := T1.out.c1
  go_wp2_with fail
  have HC7 := round_is S1.out S2.out (by decide) (by decide) HZ.out H1.out
  refine (HC7).mono ?_
  rintro e wc8 ⟨⟨u, rfl, hv10⟩, hb9⟩
  clear HC7
  obtain ⟨AN, ANn, ANc, rfl, hv10o⟩ := hv10.open_
  obtain ⟨dn, dnh⟩ : ∃ dn, decide (n < 0) = dn := ⟨_, rfl⟩
  rw [dnh] at hv10o ⊢
  clear hv10 dnh
  clear T0a T0b T1a T1b
  replace T0 := Lib.hid (T0.out.keep hb9)
  replace T1 := Lib.hid (T1.out.keep hb9)
  replace S1 := Lib.hid (S1.out.below hb9)
  replace S2 := Lib.hid (S2.out.below hb9)
  replace HB := Lib.hid (HB.out.trans (hb9.mono HB.out.size))
  clear hb9
  have N := Lib.hid (hv10o)
  clear hv10o
  have T0l := T0.out.lt
  have T0a := T0.out.c0
  have T0b := T0.out.c1
  have T1l := T1.out.lt
  have T1a := T1.out.c0
  have T1b := T1.out.c1
  go_wp2_with fail
  clear T0l T0a T0b T1l T1a T1b
  generalize ha12 : World.alloc (wc8) _ = wa11
  have hb13 : Below wc8.heap.size wc8 wa11 := by rw [← ha12]; exact (Below.refl _ _).alloc (Nat.le_refl _) _
  have T2 : Hid (Two wa11 (wc8.heap.size) (.bool dn) (.slice AN ANn ANc)) := Lib.hid (by rw [← ha12]; exact Two.made _ _ _)
  clear ha12
  replace T0 := Lib.hid (T0.out.keep hb13)
  replace T1 := Lib.hid (T1.out.keep hb13)
  replace S1 := Lib.hid (S1.out.below hb13)
  replace S2 := Lib.hid (S2.out.below hb13)
  replace N := Lib.hid (N.out.below hb13)
  replace HB := Lib.hid (HB.out.trans (hb13.mono HB.out.size))
  clear hb13
  have HC14 := symm_is S1.out S2.out (by decide) (by decide) HZ.out H2.out
  refine (HC14).mono ?_
  rintro e wc15 ⟨⟨u, rfl, hv17⟩, hb16⟩
  clear HC14
  obtain ⟨AR, ARn, ARc, rfl, hv17o⟩ := hv17.open_
  obtain ⟨dr, drh⟩ : ∃ dr, decide (r < 0) = dr := ⟨_, rfl⟩
  rw [drh] at hv17o ⊢
  clear hv17 drh
  replace T0 := Lib.hid (T0.out.keep hb16)
  replace T1 := Lib.hid (T1.out.keep hb16)
  replace T2 := Lib.hid (T2.out.keep hb16)
  replace S1 := Lib.hid (S1.out.below hb16)
  replace S2 := Lib.hid (S2.out.below hb16)
  replace N := Lib.hid (N.out.below hb16)
  replace HB := Lib.hid (HB.out.trans (hb16.mono HB.out.size))
  clear hb16
  have R := Lib.hid (hv17o)
  clear hv17o
  have T0l := T0.out.lt
  have T0a := T0.out.c0
  have T0b := T0.out.c1
  have T1l := T1.out.lt
  have T1a := T1.out.c0
  have T1b := T1.out.c1
  go_wp2_with fail
  clear T0l T0a T0b T1l T1a T1b
  generalize ha19 : World.alloc (wc15) _ = wa18
  have hb20 : Below wc15.heap.size wc15 wa18 := by rw [← ha19]; exact (Below.refl _ _).alloc (Nat.le_refl _) _
  have T3 : Hid (Two wa18 (wc15.heap.size) (.bool dr) (.slice AR ARn ARc)) := Lib.hid (by rw [← ha19]; exact Two.made _ _ _)
  clear ha19
  replace T0 := Lib.hid (T0.out.keep hb20)
  replace T1 := Lib.hid (T1.out.keep hb20)
  replace T2 := Lib.hid (T2.out.keep hb20)
  replace S1 := Lib.hid (S1.out.below hb20)
  replace S2 := Lib.hid (S2.out.below hb20)
  replace N := Lib.hid (N.out.below hb20)
  replace R := Lib.hid (R.out.below hb20)
  replace HB := Lib.hid (HB.out.trans (hb20.mono HB.out.size))
  clear hb20
  have HC21 := sign_is S2.out HSB.out
  refine (HC21).mono ?_
  rintro e wc22 ⟨rfl, hb23⟩
  clear HC21
  replace T0 := Lib.hid (T0.out.keep hb23)
  replace T1 := Lib.hid (T1.out.keep hb23)
  replace T2 := Lib.hid (T2.out.keep hb23)
  replace T3 := Lib.hid (T3.out.keep hb23)
  replace S1 := Lib.hid (S1.out.below hb23)
  replace S2 := Lib.hid (S2.out.below hb23)
  replace N := Lib.hid (N.out.below hb23)
  replace R := Lib.hid (R.out.below hb23)
  replace HB := Lib.hid (HB.out.trans (hb23.mono HB.out.size))
  clear hb23
  go_upto_region 7 with (fail)
  go_cut [9] (fun s9 wx => ∃ (gb0 : Nat) (dd : Bool) (AD : Option Addr) (ADn ADc : Nat), s9 = .pointer (some ⟨gb0, 0, none⟩) ∧ Two wx gb0 (.bool dd) (.slice AD ADn ADc) ∧ In wx (.agg #[.bool dd, .slice AD ADn ADc]) ((a - n * b).natAbs : Int) ∧ Two wx (w.heap.size) (.bool g1) (.slice A1 l1.length c1) ∧ Two wx (w.heap.size + 1) (.bool g2) (.slice A2 l2.length c2) ∧ Two wx (wc8.heap.size) (.bool dn) (.slice AN ANn ANc) ∧ Two wx (wc15.heap.size) (.bool dr) (.slice AR ARn ARc) ∧ Rd wx (.agg #[.bool g1, .slice A1 l1.length c1]) a 10 ∧ Rd wx (.agg #[.bool g2, .slice A2 l2.length c2]) b 10 ∧ In wx (.agg #[.bool dn, .slice AN ANn ANc]) n ∧ In wx (.agg #[.bool dr, .slice AR ARn ARc]) r ∧ Below w.heap.size w wx)
  case first =>
    have T0wa := T0.out.c0
    have T0wb := T0.out.c1
    have T1wa := T1.out.c0
    have T1wb := T1.out.c1
    have T2wa := T2.out.c0
    have T2wb := T2.out.c1
    replace T0 := Lib.hid T0.out.drew
    replace T1 := Lib.hid T1.out.drew
    replace T2 := Lib.hid T2.out.drew
    replace T3 := Lib.hid T3.out.drew
    replace S1 := Lib.hid S1.out.drew
    replace S2 := Lib.hid S2.out.drew
    replace N := Lib.hid N.out.drew
    replace R := Lib.hid R.out.drew
    replace HB := Lib.hid (below_drewN HB.out 1)
    have T0O := T0.out.lt
    have T0l := T0.out.lt
    have T1O := T1.out.lt
    have T1l := T1.out.lt
    have T2O := T2.out.lt
    have T2l := T2.out.lt
    have T3O := T3.out.lt
    have T3l := T3.out.lt
    simp only [World.drew] at T0O T0l T1O T1l T2O T2l T3O T3l
    have T0a := T0.out.c0
    have T0b := T0.out.c1
    have T1a := T1.out.c0
    have T1b := T1.out.c1
    have T2a := T2.out.c0
    have T2b := T2.out.c1
    go_region_held3 (fun w' => w'.cell? ⟨w.heap.size, 0, none⟩ = some (.bool g1) ∧ w'.cell? ⟨w.heap.size, 1, none⟩ = some (.slice A1 l1.length c1) ∧ w'.cell? ⟨w.heap.size + 1, 0, none⟩ = some (.bool g2) ∧ w'.cell? ⟨w.heap.size + 1, 1, none⟩ = some (.slice A2 l2.length c2) ∧ w'.cell? ⟨wc8.heap.size, 0, none⟩ = some (.bool dn) ∧ w'.cell? ⟨wc8.heap.size, 1, none⟩ = some (.slice AN ANn ANc))
      ((first | (refine ⟨?_, ?_, ?_, ?_, ?_, ?_⟩ <;> (with_reducible assumption)) | (refine ⟨?_, ?_, ?_, ?_, ?_, ?_⟩ <;> (repeat (first | (with_reducible assumption) | rw [two_cell _ _ _ _ _ _ (by omega)] | rw [cell_drew] | rw [cell_grow _ _ _ _ (by first | omega | (simp; omega))])))))
      (first
       | (go_at_call 29; with_reducible refine (imul_rd (N.out.rds ZN.out) S2.out (by decide) (by decide) (Or.inl (by decide))).mono ?_; rintro e wx ⟨⟨ux, rfl, hvx⟩, hbx⟩; obtain ⟨AP, APn, APc, rfl, hvy⟩ := hvx.open_; obtain ⟨dp, dph⟩ : ∃ dp, decide ((n * b) < 0) = dp := ⟨_, rfl⟩; rw [dph] at hvy ⊢; clear hvx dph
          have hn := hbx
          try replace N1 := Lib.hid (N1.out.keep hn)
          try replace N2 := Lib.hid (N2.out.keep hn)
          replace T0 := Lib.hid (T0.out.keep hn)
          replace T1 := Lib.hid (T1.out.keep hn)
          replace T2 := Lib.hid (T2.out.keep hn)
          replace T3 := Lib.hid (T3.out.keep hn)
          replace T0l := T0.out.lt
          replace T1l := T1.out.lt
          replace T2l := T2.out.lt
          replace T3l := T3.out.lt
          replace T0a := T0.out.c0
          replace T0b := T0.out.c1
          replace T1a := T1.out.c0
          replace T1b := T1.out.c1
          replace T2a := T2.out.c0
          replace T2b := T2.out.c1
          try (have N1a := N1.out.c0; have N1b := N1.out.c1; have N1f := N1.out.fz 0; have N1g := N1.out.fz 1; have N1l := N1.out.lt)
          try (have N2a := N2.out.c0; have N2b := N2.out.c1; have N2f := N2.out.fz 0; have N2g := N2.out.fz 1; have N2l := N2.out.lt)
          replace S1 := Lib.hid (S1.out.below hn)
          replace S2 := Lib.hid (S2.out.below hn)
          replace N := Lib.hid (N.out.below hn)
          replace R := Lib.hid (R.out.below hn)
          try replace P1 := Lib.hid (P1.out.below hn)
          try replace P2 := Lib.hid (P2.out.below hn)
          try replace D := Lib.hid (D.out.below hn)
          replace HB := Lib.hid (HB.out.trans (hn.mono HB.out.size))
          have P1 := Lib.hid hvy
          clear hvy
          clear hbx hn)
       | (go_at_call 29; with_reducible refine (imul_rd ((N.out.below (grow1 _ (.cells #[.bool false, .slice none 0 0] 25))).rds ZN.out) (S2.out.below (grow1 _ (.cells #[.bool false, .slice none 0 0] 25))) (by decide) (by decide) (Or.inl (by decide))).mono ?_; rintro e wx ⟨⟨ux, rfl, hvx⟩, hbx⟩; obtain ⟨AP, APn, APc, rfl, hvy⟩ := hvx.open_; obtain ⟨dp, dph⟩ : ∃ dp, decide ((n * b) < 0) = dp := ⟨_, rfl⟩; rw [dph] at hvy ⊢; clear hvx dph
          have T0P := T0l
          have T1P := T1l
          have T2P := T2l
          have T3P := T3l
          try have N1P := N1l
          have hn := Below.trans (grow1 _ (.cells #[.bool false, .slice none 0 0] 25)) (hbx.mono (Below.size (grow1 _ (.cells #[.bool false, .slice none 0 0] 25))))
          try replace N1 := Lib.hid (N1.out.keep hn)
          try replace N2 := Lib.hid (N2.out.keep hn)
          first | (have _x := N1.out; have N2 := Lib.hid ((Two.made _ (.bool false) (.slice none 0 0)).keep hbx); clear _x) | have N1 := Lib.hid ((Two.made _ (.bool false) (.slice none 0 0)).keep hbx)
          replace T0 := Lib.hid (T0.out.keep hn)
          replace T1 := Lib.hid (T1.out.keep hn)
          replace T2 := Lib.hid (T2.out.keep hn)
          replace T3 := Lib.hid (T3.out.keep hn)
          replace T0l := T0.out.lt
          replace T1l := T1.out.lt
          replace T2l := T2.out.lt
          replace T3l := T3.out.lt
          replace T0a := T0.out.c0
          replace T0b := T0.out.c1
          replace T1a := T1.out.c0
          replace T1b := T1.out.c1
          replace T2a := T2.out.c0
          replace T2b := T2.out.c1
          try (have N1a := N1.out.c0; have N1b := N1.out.c1; have N1f := N1.out.fz 0; have N1g := N1.out.fz 1; have N1l := N1.out.lt)
          try (have N2a := N2.out.c0; have N2b := N2.out.c1; have N2f := N2.out.fz 0; have N2g := N2.out.fz 1; have N2l := N2.out.lt)
          replace S1 := Lib.hid (S1.out.below hn)
          replace S2 := Lib.hid (S2.out.below hn)
          replace N := Lib.hid (N.out.below hn)
          replace R := Lib.hid (R.out.below hn)
          try replace P1 := Lib.hid (P1.out.below hn)
          try replace P2 := Lib.hid (P2.out.below hn)
          try replace D := Lib.hid (D.out.below hn)
          replace HB := Lib.hid (HB.out.trans (hn.mono HB.out.size))
          have P1 := Lib.hid hvy
          clear hvy
          clear hbx hn)
       | (go_at_call 29; with_reducible refine (imul_rd ((N.out.below (grow1d wc22 (.cells #[.bool false, .slice none 0 0] 25))).rds ZN.out) (S2.out.below (grow1d wc22 (.cells #[.bool false, .slice none 0 0] 25))) (by decide) (by decide) (Or.inl (by decide))).mono ?_; rintro e wx ⟨⟨ux, rfl, hvx⟩, hbx⟩; obtain ⟨AP, APn, APc, rfl, hvy⟩ := hvx.open_; obtain ⟨dp, dph⟩ : ∃ dp, decide ((n * b) < 0) = dp := ⟨_, rfl⟩; rw [dph] at hvy ⊢; clear hvx dph
          have T0P := T0l
          have T1P := T1l
          have T2P := T2l
          have T3P := T3l
          try have N1P := N1l
          have hn := Below.trans (grow1d wc22 (.cells #[.bool false, .slice none 0 0] 25)) (hbx.mono (Below.size (grow1d wc22 (.cells #[.bool false, .slice none 0 0] 25))))
          try replace N1 := Lib.hid (N1.out.keep hn)
          try replace N2 := Lib.hid (N2.out.keep hn)
          first | (have _x := N1.out; have N2 := Lib.hid ((Two.made _ (.bool false) (.slice none 0 0)).drew.keep hbx); clear _x) | have N1 := Lib.hid ((Two.made _ (.bool false) (.slice none 0 0)).drew.keep hbx)
          replace T0 := Lib.hid (T0.out.keep hn)
          replace T1 := Lib.hid (T1.out.keep hn)
          replace T2 := Lib.hid (T2.out.keep hn)
          replace T3 := Lib.hid (T3.out.keep hn)
          replace T0l := T0.out.lt
          replace T1l := T1.out.lt
          replace T2l := T2.out.lt
          replace T3l := T3.out.lt
          replace T0a := T0.out.c0
          replace T0b := T0.out.c1
          replace T1a := T1.out.c0
          replace T1b := T1.out.c1
          replace T2a := T2.out.c0
          replace T2b := T2.out.c1
          try (have N1a := N1.out.c0; have N1b := N1.out.c1; have N1f := N1.out.fz 0; have N1g := N1.out.fz 1; have N1l := N1.out.lt)
          try (have N2a := N2.out.c0; have N2b := N2.out.c1; have N2f := N2.out.fz 0; have N2g := N2.out.fz 1; have N2l := N2.out.lt)
          replace S1 := Lib.hid (S1.out.below hn)
          replace S2 := Lib.hid (S2.out.below hn)
          replace N := Lib.hid (N.out.below hn)
          replace R := Lib.hid (R.out.below hn)
          try replace P1 := Lib.hid (P1.out.below hn)
          try replace P2 := Lib.hid (P2.out.below hn)
          try replace D := Lib.hid (D.out.below hn)
          replace HB := Lib.hid (HB.out.trans (hn.mono HB.out.size))
          have P1 := Lib.hid hvy
          clear hvy
          clear hbx hn)
       | (go_at_call 37; with_reducible refine (isub_rd S1.out (P1.out.rds (ZN.out.mul Z2.out)) (by decide) (by decide)).mono ?_; rintro e wx ⟨⟨ux, rfl, hvx⟩, hbx⟩; obtain ⟨AQ, AQn, AQc, rfl, hvy⟩ := hvx.open_; obtain ⟨dq, dqh⟩ : ∃ dq, decide ((a - n * b) < 0) = dq := ⟨_, rfl⟩; rw [dqh] at hvy ⊢; clear hvx dqh
          have hn := hbx
          try replace N1 := Lib.hid (N1.out.keep hn)
          try replace N2 := Lib.hid (N2.out.keep hn)
          replace T0 := Lib.hid (T0.out.keep hn)
          replace T1 := Lib.hid (T1.out.keep hn)
          replace T2 := Lib.hid (T2.out.keep hn)
          replace T3 := Lib.hid (T3.out.keep hn)
          replace T0l := T0.out.lt
          replace T1l := T1.out.lt
          replace T2l := T2.out.lt
          replace T3l := T3.out.lt
          replace T0a := T0.out.c0
          replace T0b := T0.out.c1
          replace T1a := T1.out.c0
          replace T1b := T1.out.c1
          replace T2a := T2.out.c0
          replace T2b := T2.out.c1
          try (have N1a := N1.out.c0; have N1b := N1.out.c1; have N1f := N1.out.fz 0; have N1g := N1.out.fz 1; have N1l := N1.out.lt)
          try (have N2a := N2.out.c0; have N2b := N2.out.c1; have N2f := N2.out.fz 0; have N2g := N2.out.fz 1; have N2l := N2.out.lt)
          replace S1 := Lib.hid (S1.out.below hn)
          replace S2 := Lib.hid (S2.out.below hn)
          replace N := Lib.hid (N.out.below hn)
          replace R := Lib.hid (R.out.below hn)
          try replace P1 := Lib.hid (P1.out.below hn)
          try replace P2 := Lib.hid (P2.out.below hn)
          try replace D := Lib.hid (D.out.below hn)
          replace HB := Lib.hid (HB.out.trans (hn.mono HB.out.size))
          have P2 := Lib.hid hvy
          clear hvy
          clear hbx hn)
       | (go_at_call 37; with_reducible refine (isub_rd (S1.out.below (grow1 _ (.cells #[.bool false, .slice none 0 0] 25))) ((P1.out.below (grow1 _ (.cells #[.bool false, .slice none 0 0] 25))).rds (ZN.out.mul Z2.out)) (by decide) (by decide)).mono ?_; rintro e wx ⟨⟨ux, rfl, hvx⟩, hbx⟩; obtain ⟨AQ, AQn, AQc, rfl, hvy⟩ := hvx.open_; obtain ⟨dq, dqh⟩ : ∃ dq, decide ((a - n * b) < 0) = dq := ⟨_, rfl⟩; rw [dqh] at hvy ⊢; clear hvx dqh
          have T0P := T0l
          have T1P := T1l
          have T2P := T2l
          have T3P := T3l
          try have N1P := N1l
          have hn := Below.trans (grow1 _ (.cells #[.bool false, .slice none 0 0] 25)) (hbx.mono (Below.size (grow1 _ (.cells #[.bool false, .slice none 0 0] 25))))
          try replace N1 := Lib.hid (N1.out.keep hn)
          try replace N2 := Lib.hid (N2.out.keep hn)
          first | (have _x := N1.out; have N2 := Lib.hid ((Two.made _ (.bool false) (.slice none 0 0)).keep hbx); clear _x) | have N1 := Lib.hid ((Two.made _ (.bool false) (.slice none 0 0)).keep hbx)
          replace T0 := Lib.hid (T0.out.keep hn)
          replace T1 := Lib.hid (T1.out.keep hn)
          replace T2 := Lib.hid (T2.out.keep hn)
          replace T3 := Lib.hid (T3.out.keep hn)
          replace T0l := T0.out.lt
          replace T1l := T1.out.lt
          replace T2l := T2.out.lt
          replace T3l := T3.out.lt
          replace T0a := T0.out.c0
          replace T0b := T0.out.c1
          replace T1a := T1.out.c0
          replace T1b := T1.out.c1
          replace T2a := T2.out.c0
          replace T2b := T2.out.c1
          try (have N1a := N1.out.c0; have N1b := N1.out.c1; have N1f := N1.out.fz 0; have N1g := N1.out.fz 1; have N1l := N1.out.lt)
          try (have N2a := N2.out.c0; have N2b := N2.out.c1; have N2f := N2.out.fz 0; have N2g := N2.out.fz 1; have N2l := N2.out.lt)
          replace S1 := Lib.hid (S1.out.below hn)
          replace S2 := Lib.hid (S2.out.below hn)
          replace N := Lib.hid (N.out.below hn)
          replace R := Lib.hid (R.out.below hn)
          try replace P1 := Lib.hid (P1.out.below hn)
          try replace P2 := Lib.hid (P2.out.below hn)
          try replace D := Lib.hid (D.out.below hn)
          replace HB := Lib.hid (HB.out.trans (hn.mono HB.out.size))
          have P2 := Lib.hid hvy
          clear hvy
          clear hbx hn)
       | (go_at_call 37; with_reducible refine (isub_rd (S1.out.below (grow1d wc22 (.cells #[.bool false, .slice none 0 0] 25))) ((P1.out.below (grow1d wc22 (.cells #[.bool false, .slice none 0 0] 25))).rds (ZN.out.mul Z2.out)) (by decide) (by decide)).mono ?_; rintro e wx ⟨⟨ux, rfl, hvx⟩, hbx⟩; obtain ⟨AQ, AQn, AQc, rfl, hvy⟩ := hvx.open_; obtain ⟨dq, dqh⟩ : ∃ dq, decide ((a - n * b) < 0) = dq := ⟨_, rfl⟩; rw [dqh] at hvy ⊢; clear hvx dqh
          have T0P := T0l
          have T1P := T1l
          have T2P := T2l
          have T3P := T3l
          try have N1P := N1l
          have hn := Below.trans (grow1d wc22 (.cells #[.bool false, .slice none 0 0] 25)) (hbx.mono (Below.size (grow1d wc22 (.cells #[.bool false, .slice none 0 0] 25))))
          try replace N1 := Lib.hid (N1.out.keep hn)
          try replace N2 := Lib.hid (N2.out.keep hn)
          first | (have _x := N1.out; have N2 := Lib.hid ((Two.made _ (.bool false) (.slice none 0 0)).drew.keep hbx); clear _x) | have N1 := Lib.hid ((Two.made _ (.bool false) (.slice none 0 0)).drew.keep hbx)
          replace T0 := Lib.hid (T0.out.keep hn)
          replace T1 := Lib.hid (T1.out.keep hn)
          replace T2 := Lib.hid (T2.out.keep hn)
          replace T3 := Lib.hid (T3.out.keep hn)
          replace T0l := T0.out.lt
          replace T1l := T1.out.lt
          replace T2l := T2.out.lt
          replace T3l := T3.out.lt
          replace T0a := T0.out.c0
          replace T0b := T0.out.c1
          replace T1a := T1.out.c0
          replace T1b := T1.out.c1
          replace T2a := T2.out.c0
          replace T2b := T2.out.c1
          try (have N1a := N1.out.c0; have N1b := N1.out.c1; have N1f := N1.out.fz 0; have N1g := N1.out.fz 1; have N1l := N1.out.lt)
          try (have N2a := N2.out.c0; have N2b := N2.out.c1; have N2f := N2.out.fz 0; have N2g := N2.out.fz 1; have N2l := N2.out.lt)
          replace S1 := Lib.hid (S1.out.below hn)
          replace S2 := Lib.hid (S2.out.below hn)
          replace N := Lib.hid (N.out.below hn)
          replace R := Lib.hid (R.out.below hn)
          try replace P1 := Lib.hid (P1.out.below hn)
          try replace P2 := Lib.hid (P2.out.below hn)
          try replace D := Lib.hid (D.out.below hn)
          replace HB := Lib.hid (HB.out.trans (hn.mono HB.out.size))
          have P2 := Lib.hid hvy
          clear hvy
          clear hbx hn)
       | (go_at_call 26; with_reducible refine (iabs_rd (P2.out.rds ZD.out)).mono ?_; rintro e wx ⟨⟨ux, rfl, hvx⟩, hbx⟩; obtain ⟨AD, ADn, ADc, rfl, hvy⟩ := hvx.open_; obtain ⟨dd, ddh⟩ : ∃ dd, decide (((a - n * b).natAbs : Int) < 0) = dd := ⟨_, rfl⟩; rw [ddh] at hvy ⊢; clear hvx ddh
          have hn := hbx
          try replace N1 := Lib.hid (N1.out.keep hn)
          try replace N2 := Lib.hid (N2.out.keep hn)
          replace T0 := Lib.hid (T0.out.keep hn)
          replace T1 := Lib.hid (T1.out.keep hn)
          replace T2 := Lib.hid (T2.out.keep hn)
          replace T3 := Lib.hid (T3.out.keep hn)
          replace T0l := T0.out.lt
          replace T1l := T1.out.lt
          replace T2l := T2.out.lt
          replace T3l := T3.out.lt
          replace T0a := T0.out.c0
          replace T0b := T0.out.c1
          replace T1a := T1.out.c0
          replace T1b := T1.out.c1
          replace T2a := T2.out.c0
          replace T2b := T2.out.c1
          try (have N1a := N1.out.c0; have N1b := N1.out.c1; have N1f := N1.out.fz 0; have N1g := N1.out.fz 1; have N1l := N1.out.lt)
          try (have N2a := N2.out.c0; have N2b := N2.out.c1; have N2f := N2.out.fz 0; have N2g := N2.out.fz 1; have N2l := N2.out.lt)
          replace S1 := Lib.hid (S1.out.below hn)
          replace S2 := Lib.hid (S2.out.below hn)
          replace N := Lib.hid (N.out.below hn)
          replace R := Lib.hid (R.out.below hn)
          try replace P1 := Lib.hid (P1.out.below hn)
          try replace P2 := Lib.hid (P2.out.below hn)
          try replace D := Lib.hid (D.out.below hn)
          replace HB := Lib.hid (HB.out.trans (hn.mono HB.out.size))
          have D := Lib.hid hvy
          clear hvy
          clear hbx hn)
       | (go_at_call 26; with_reducible refine (iabs_rd ((P2.out.below (grow1 _ (.cells #[.bool false, .slice none 0 0] 25))).rds ZD.out)).mono ?_; rintro e wx ⟨⟨ux, rfl, hvx⟩, hbx⟩; obtain ⟨AD, ADn, ADc, rfl, hvy⟩ := hvx.open_; obtain ⟨dd, ddh⟩ : ∃ dd, decide (((a - n * b).natAbs : Int) < 0) = dd := ⟨_, rfl⟩; rw [ddh] at hvy ⊢; clear hvx ddh
          have T0P := T0l
          have T1P := T1l
          have T2P := T2l
          have T3P := T3l
          try have N1P := N1l
          have hn := Below.trans (grow1 _ (.cells #[.bool false, .slice none 0 0] 25)) (hbx.mono (Below.size (grow1 _ (.cells #[.bool false, .slice none 0 0] 25))))
          try replace N1 := Lib.hid (N1.out.keep hn)
          try replace N2 := Lib.hid (N2.out.keep hn)
          first | (have _x := N1.out; have N2 := Lib.hid ((Two.made _ (.bool false) (.slice none 0 0)).keep hbx); clear _x) | have N1 := Lib.hid ((Two.made _ (.bool false) (.slice none 0 0)).keep hbx)
          replace T0 := Lib.hid (T0.out.keep hn)
          replace T1 := Lib.hid (T1.out.keep hn)
          replace T2 := Lib.hid (T2.out.keep hn)
          replace T3 := Lib.hid (T3.out.keep hn)
          replace T0l := T0.out.lt
          replace T1l := T1.out.lt
          replace T2l := T2.out.lt
          replace T3l := T3.out.lt
          replace T0a := T0.out.c0
          replace T0b := T0.out.c1
          replace T1a := T1.out.c0
          replace T1b := T1.out.c1
          replace T2a := T2.out.c0
          replace T2b := T2.out.c1
          try (have N1a := N1.out.c0; have N1b := N1.out.c1; have N1f := N1.out.fz 0; have N1g := N1.out.fz 1; have N1l := N1.out.lt)
          try (have N2a := N2.out.c0; have N2b := N2.out.c1; have N2f := N2.out.fz 0; have N2g := N2.out.fz 1; have N2l := N2.out.lt)
          replace S1 := Lib.hid (S1.out.below hn)
          replace S2 := Lib.hid (S2.out.below hn)
          replace N := Lib.hid (N.out.below hn)
          replace R := Lib.hid (R.out.below hn)
          try replace P1 := Lib.hid (P1.out.below hn)
          try replace P2 := Lib.hid (P2.out.below hn)
          try replace D := Lib.hid (D.out.below hn)
          replace HB := Lib.hid (HB.out.trans (hn.mono HB.out.size))
          have D := Lib.hid hvy
          clear hvy
          clear hbx hn)
       | (go_at_call 26; with_reducible refine (iabs_rd ((P2.out.below (grow1d wc22 (.cells #[.bool false, .slice none 0 0] 25))).rds ZD.out)).mono ?_; rintro e wx ⟨⟨ux, rfl, hvx⟩, hbx⟩; obtain ⟨AD, ADn, ADc, rfl, hvy⟩ := hvx.open_; obtain ⟨dd, ddh⟩ : ∃ dd, decide (((a - n * b).natAbs : Int) < 0) = dd := ⟨_, rfl⟩; rw [ddh] at hvy ⊢; clear hvx ddh
          have T0P := T0l
          have T1P := T1l
          have T2P := T2l
          have T3P := T3l
          try have N1P := N1l
          have hn := Below.trans (grow1d wc22 (.cells #[.bool false, .slice none 0 0] 25)) (hbx.mono (Below.size (grow1d wc22 (.cells #[.bool false, .slice none 0 0] 25))))
          try replace N1 := Lib.hid (N1.out.keep hn)
          try replace N2 := Lib.hid (N2.out.keep hn)
          first | (have _x := N1.out; have N2 := Lib.hid ((Two.made _ (.bool false) (.slice none 0 0)).drew.keep hbx); clear _x) | have N1 := Lib.hid ((Two.made _ (.bool false) (.slice none 0 0)).drew.keep hbx)
          replace T0 := Lib.hid (T0.out.keep hn)
          replace T1 := Lib.hid (T1.out.keep hn)
          replace T2 := Lib.hid (T2.out.keep hn)
          replace T3 := Lib.hid (T3.out.keep hn)
          replace T0l := T0.out.lt
          replace T1l := T1.out.lt
          replace T2l := T2.out.lt
          replace T3l := T3.out.lt
          replace T0a := T0.out.c0
          replace T0b := T0.out.c1
          replace T1a := T1.out.c0
          replace T1b := T1.out.c1
          replace T2a := T2.out.c0
          replace T2b := T2.out.c1
          try (have N1a := N1.out.c0; have N1b := N1.out.c1; have N1f := N1.out.fz 0; have N1g := N1.out.fz 1; have N1l := N1.out.lt)
          try (have N2a := N2.out.c0; have N2b := N2.out.c1; have N2f := N2.out.fz 0; have N2g := N2.out.fz 1; have N2l := N2.out.lt)
          replace S1 := Lib.hid (S1.out.below hn)
          replace S2 := Lib.hid (S2.out.below hn)
          replace N := Lib.hid (N.out.below hn)
          replace R := Lib.hid (R.out.below hn)
          try replace P1 := Lib.hid (P1.out.below hn)
          try replace P2 := Lib.hid (P2.out.below hn)
          try replace D := Lib.hid (D.out.below hn)
          replace HB := Lib.hid (HB.out.trans (hn.mono HB.out.size))
          have D := Lib.hid hvy
          clear hvy
          clear hbx hn))
    all_goals
      rename_i hH
      clear hH
      go_wp2_with fail
      go_meet
      refine ⟨_, dd, AD, ADn, ADc, rfl, ?_, ?_, ?_, ?_, ?_, ?_, ?_, ?_, ?_, ?_, ?_⟩ <;> (repeat (first | with_reducible exact T0.out | with_reducible exact T1.out | with_reducible exact T2.out | with_reducible exact T3.out | with_reducible exact N1.out | with_reducible exact N2.out | with_reducible exact S1.out | with_reducible exact S2.out | with_reducible exact N.out | with_reducible exact R.out | with_reducible exact P1.out | with_reducible exact P2.out | with_reducible exact D.out | with_reducible exact HB.out | with_reducible exact Bs.of N1.out | with_reducible exact Bs.of N2.out | with_reducible exact Bs.of T0.out | with_reducible exact Bs.of T1.out | with_reducible exact Bs.of T2.out | with_reducible exact Bs.of T3.out | with_reducible refine Two.st ?_ _ _ | (with_reducible refine Two.ot ?_ ?hne _ _; case hne => omega) | (with_reducible refine Two.mk' ?_ _ _; (first | with_reducible rfl | omega | (simp; done))) | with_reducible refine Two.alloc ?_ _ | with_reducible refine Bs.same ?_ _ _ _ _ | (with_reducible refine Bs.ot ?_ ?hne _ _; case hne => omega) | (with_reducible refine Bs.mk' ?_ _ _ _ _; (first | with_reducible rfl | omega | (simp; done))) | with_reducible refine Bs.al ?_ _ | with_reducible refine In.st ?_ ?_ _ _ | with_reducible refine In.al ?_ _ | with_reducible refine Rd.st ?_ ?_ _ _ | with_reducible refine Rd.al ?_ _ | (with_reducible refine Below.st ?_ ?hne _ _; case hne => omega) | with_reducible refine Below.al ?_ _))
  case rest =>
    obtain ⟨gT4, dd, AD, ADn, ADc, rfl, T4p, Dp, T0p, T1p, T2p, T3p, S1p, S2p, Np, Rp, HBp⟩ := hcut
    replace T0 := Lib.hid T0p
    clear T0p
    replace T1 := Lib.hid T1p
    clear T1p
    replace T2 := Lib.hid T2p
    clear T2p
    replace T3 := Lib.hid T3p
    clear T3p
    replace S1 := Lib.hid S1p
    clear S1p
    replace S2 := Lib.hid S2p
    clear S2p
    replace N := Lib.hid Np
    clear Np
    replace R := Lib.hid Rp
    clear Rp
    replace HB := Lib.hid HBp
    clear HBp
    have T4 := Lib.hid T4p
    have D := Lib.hid Dp
    clear T4p Dp
    go_wp2_with fail
    replace T0 := Lib.hid T0.out.drew
    replace T1 := Lib.hid T1.out.drew
    replace T2 := Lib.hid T2.out.drew
    replace T3 := Lib.hid T3.out.drew
    replace T4 := Lib.hid T4.out.drew
    replace S1 := Lib.hid S1.out.drew
    replace S2 := Lib.hid S2.out.drew
    replace N := Lib.hid N.out.drew
    replace R := Lib.hid R.out.drew
    replace D := Lib.hid D.out.drew
    replace HB := Lib.hid (below_drewN HB.out 1)
    have T4a := T4.out.c0
    have T4b := T4.out.c1
    have T1a := T1.out.c0
    have T1b := T1.out.c1
    go_region_held3 (fun w' => w'.cell? ⟨gT4, 0, none⟩ = some (.bool dd) ∧ w'.cell? ⟨gT4, 1, none⟩ = some (.slice AD ADn ADc) ∧ w'.cell? ⟨w.heap.size + 1, 0, none⟩ = some (.bool g2) ∧ w'.cell? ⟨w.heap.size + 1, 1, none⟩ = some (.slice A2 l2.length c2))
      ((first | (refine ⟨?_, ?_, ?_, ?_⟩ <;> (with_reducible assumption))))
      (first
       | (go_at_call 28; with_reducible refine (iadd_rd (D.out.rds ZD.out.abs) (D.out.rds ZD.out.abs) (by decide) (by decide)).mono ?_; rintro e wy24 ⟨⟨ux, rfl, hvx⟩, hbx⟩; obtain ⟨AX, AXn, AXc, rfl, hvy⟩ := hvx.open_; obtain ⟨dx1, dx1h⟩ : ∃ dx1, decide ((((a - n * b).natAbs : Int) + ((a - n * b).natAbs : Int)) < 0) = dx1 := ⟨_, rfl⟩; rw [dx1h] at hvy ⊢; clear hvx dx1h
          replace T0 := Lib.hid (T0.out.keep hbx)
          replace T1 := Lib.hid (T1.out.keep hbx)
          replace T2 := Lib.hid (T2.out.keep hbx)
          replace T3 := Lib.hid (T3.out.keep hbx)
          replace T4 := Lib.hid (T4.out.keep hbx)
          replace T4a := T4.out.c0
          replace T4b := T4.out.c1
          replace T1a := T1.out.c0
          replace T1b := T1.out.c1
          replace S1 := Lib.hid (S1.out.below hbx)
          replace S2 := Lib.hid (S2.out.below hbx)
          replace N := Lib.hid (N.out.below hbx)
          replace R := Lib.hid (R.out.below hbx)
          replace D := Lib.hid (D.out.below hbx)
          try replace X1 := Lib.hid (X1.out.below hbx)
          try replace X2 := Lib.hid (X2.out.below hbx)
          replace HB := Lib.hid (HB.out.trans (hbx.mono HB.out.size))
          have X1 := Lib.hid hvy
          clear hvy
          clear hbx)
       | (go_at_call 26; with_reducible refine (iabs_rd S2.out).mono ?_; rintro e wy24 ⟨⟨ux, rfl, hvx⟩, hbx⟩; obtain ⟨AY, AYn, AYc, rfl, hvy⟩ := hvx.open_; obtain ⟨dx2, dx2h⟩ : ∃ dx2, decide ((b.natAbs : Int) < 0) = dx2 := ⟨_, rfl⟩; rw [dx2h] at hvy ⊢; clear hvx dx2h
          replace T0 := Lib.hid (T0.out.keep hbx)
          replace T1 := Lib.hid (T1.out.keep hbx)
          replace T2 := Lib.hid (T2.out.keep hbx)
          replace T3 := Lib.hid (T3.out.keep hbx)
          replace T4 := Lib.hid (T4.out.keep hbx)
          replace T4a := T4.out.c0
          replace T4b := T4.out.c1
          replace T1a := T1.out.c0
          replace T1b := T1.out.c1
          replace S1 := Lib.hid (S1.out.below hbx)
          replace S2 := Lib.hid (S2.out.below hbx)
          replace N := Lib.hid (N.out.below hbx)
          replace R := Lib.hid (R.out.below hbx)
          replace D := Lib.hid (D.out.below hbx)
          try replace X1 := Lib.hid (X1.out.below hbx)
          try replace X2 := Lib.hid (X2.out.below hbx)
          replace HB := Lib.hid (HB.out.trans (hbx.mono HB.out.size))
          have X2 := Lib.hid hvy
          clear hvy
          clear hbx)
       | (go_at_call 25; with_reducible refine (icmp_is (X1.out.rds (ZD.out.abs.add ZD.out.abs)) (X2.out.rds Z2.out.abs) HC.out).mono ?_; rintro e wy24 ⟨rfl, hbx⟩
          replace T0 := Lib.hid (T0.out.keep hbx)
          replace T1 := Lib.hid (T1.out.keep hbx)
          replace T2 := Lib.hid (T2.out.keep hbx)
          replace T3 := Lib.hid (T3.out.keep hbx)
          replace T4 := Lib.hid (T4.out.keep hbx)
          replace T4a := T4.out.c0
          replace T4b := T4.out.c1
          replace T1a := T1.out.c0
          replace T1b := T1.out.c1
          replace S1 := Lib.hid (S1.out.below hbx)
          replace S2 := Lib.hid (S2.out.below hbx)
          replace N := Lib.hid (N.out.below hbx)
          replace R := Lib.hid (R.out.below hbx)
          replace D := Lib.hid (D.out.below hbx)
          try replace X1 := Lib.hid (X1.out.below hbx)
          try replace X2 := Lib.hid (X2.out.below hbx)
          replace HB := Lib.hid (HB.out.trans (hbx.mono HB.out.size))
          clear hbx))
    all_goals
      rename_i hH
      clear hH
      clear X1 X2
      clear T4a T4b T1a T1b
      have T2a := T2.out.c0
      have T2b := T2.out.c1
      go_wp2_with fail
      have HC25 := isodd_rd (N.out.rds ZN.out) HO.out
      refine (HC25).mono ?_
      rintro e wc26 ⟨rfl, hb27⟩
      clear HC25
      clear T2a T2b
      replace T0 := Lib.hid (T0.out.keep hb27)
      replace T1 := Lib.hid (T1.out.keep hb27)
      replace T2 := Lib.hid (T2.out.keep hb27)
      replace T3 := Lib.hid (T3.out.keep hb27)
      replace T4 := Lib.hid (T4.out.keep hb27)
      replace S1 := Lib.hid (S1.out.below hb27)
      replace S2 := Lib.hid (S2.out.below hb27)
      replace N := Lib.hid (N.out.below hb27)
      replace R := Lib.hid (R.out.below hb27)
      replace D := Lib.hid (D.out.below hb27)
      replace HB := Lib.hid (HB.out.trans (hb27.mono HB.out.size))
      clear hb27
      go_upto_region 11 with (fail)
      go_cut [11, 12] (fun s11 s12 wx => ∃ (gb0 : Nat) (dt : Bool) (AT : Option Addr) (ATn ATc : Nat) (gb1 : Nat) (dm : Bool) (AM : Option Addr) (AMn AMc : Nat), s11 = .pointer (some ⟨gb0, 0, none⟩) ∧ s12 = .pointer (some ⟨gb1, 0, none⟩) ∧ Two wx gb0 (.bool dt) (.slice AT ATn ATc) ∧ Two wx gb1 (.bool dm) (.slice AM AMn AMc) ∧ In wx (.agg #[.bool dt, .slice AT ATn ATc]) (r + r) ∧ In wx (.agg #[.bool dm, .slice AM AMn AMc]) (b.natAbs : Int) ∧ Two wx (w.heap.size) (.bool g1) (.slice A1 l1.length c1) ∧ Two wx (w.heap.size + 1) (.bool g2) (.slice A2 l2.length c2) ∧ Two wx (wc8.heap.size) (.bool dn) (.slice AN ANn ANc) ∧ Two wx (wc15.heap.size) (.bool dr) (.slice AR ARn ARc) ∧ Two wx (gT4) (.bool dd) (.slice AD ADn ADc) ∧ Rd wx (.agg #[.bool g1, .slice A1 l1.length c1]) a 10 ∧ Rd wx (.agg #[.bool g2, .slice A2 l2.length c2]) b 10 ∧ In wx (.agg #[.bool dn, .slice AN ANn ANc]) n ∧ In wx (.agg #[.bool dr, .slice AR ARn ARc]) r ∧ In wx (.agg #[.bool dd, .slice AD ADn ADc]) ((a - n * b).natAbs : Int) ∧ Below w.heap.size w wx)
      case first =>
        have T3wa := T3.out.c0
        have T3wb := T3.out.c1
        have T1wa := T1.out.c0
        have T1wb := T1.out.c1
        replace T0 := Lib.hid T0.out.drew
        replace T1 := Lib.hid T1.out.drew
        replace T2 := Lib.hid T2.out.drew
        replace T3 := Lib.hid T3.out.drew
        replace T4 := Lib.hid T4.out.drew
        replace S1 := Lib.hid S1.out.drew
        replace S2 := Lib.hid S2.out.drew
        replace N := Lib.hid N.out.drew
        replace R := Lib.hid R.out.drew
        replace D := Lib.hid D.out.drew
        replace HB := Lib.hid (below_drewN HB.out 1)
        have T0O := T0.out.lt
        have T0l := T0.out.lt
        have T1O := T1.out.lt
        have T1l := T1.out.lt
        have T2O := T2.out.lt
        have T2l := T2.out.lt
        have T3O := T3.out.lt
        have T3l := T3.out.lt
        have T4O := T4.out.lt
        have T4l := T4.out.lt
        simp only [World.drew] at T0O T0l T1O T1l T2O T2l T3O T3l T4O T4l
        have T3a := T3.out.c0
        have T3b := T3.out.c1
        have T1a := T1.out.c0
        have T1b := T1.out.c1
        go_region_held3 (fun w' => w'.cell? ⟨wc15.heap.size, 0, none⟩ = some (.bool dr) ∧ w'.cell? ⟨wc15.heap.size, 1, none⟩ = some (.slice AR ARn ARc) ∧ w'.cell? ⟨w.heap.size + 1, 0, none⟩ = some (.bool g2) ∧ w'.cell? ⟨w.heap.size + 1, 1, none⟩ = some (.slice A2 l2.length c2))
          ((first | (refine ⟨?_, ?_, ?_, ?_⟩ <;> (with_reducible assumption)) | (refine ⟨?_, ?_, ?_, ?_⟩ <;> (repeat (first | (with_reducible assumption) | rw [two_cell _ _ _ _ _ _ (by omega)] | rw [cell_drew] | rw [cell_grow _ _ _ _ (by first | omega | (simp; omega))])))))
          (first
           | (go_at_call 28; with_reducible refine (iadd_rd (R.out.rds ZS.out) (R.out.rds ZS.out) (by decide) (by decide)).mono ?_; rintro e wx ⟨⟨ux, rfl, hvx⟩, hbx⟩; obtain ⟨AT, ATn, ATc, rfl, hvy⟩ := hvx.open_; obtain ⟨dt, dth⟩ : ∃ dt, decide ((r + r) < 0) = dt := ⟨_, rfl⟩; rw [dth] at hvy ⊢; clear hvx dth
              have hn := hbx
              try replace N1 := Lib.hid (N1.out.keep hn)
              try replace N2 := Lib.hid (N2.out.keep hn)
              replace T0 := Lib.hid (T0.out.keep hn)
              replace T1 := Lib.hid (T1.out.keep hn)
              replace T2 := Lib.hid (T2.out.keep hn)
              replace T3 := Lib.hid (T3.out.keep hn)
              replace T4 := Lib.hid (T4.out.keep hn)
              replace T0l := T0.out.lt
              replace T1l := T1.out.lt
              replace T2l := T2.out.lt
              replace T3l := T3.out.lt
              replace T4l := T4.out.lt
              replace T3a := T3.out.c0
              replace T3b := T3.out.c1
              replace T1a := T1.out.c0
              replace T1b := T1.out.c1
              try (have N1a := N1.out.c0; have N1b := N1.out.c1; have N1f := N1.out.fz 0; have N1g := N1.out.fz 1; have N1l := N1.out.lt)
              try (have N2a := N2.out.c0; have N2b := N2.out.c1; have N2f := N2.out.fz 0; have N2g := N2.out.fz 1; have N2l := N2.out.lt)
              replace S1 := Lib.hid (S1.out.below hn)
              replace S2 := Lib.hid (S2.out.below hn)
              replace N := Lib.hid (N.out.below hn)
              replace R := Lib.hid (R.out.below hn)
              replace D := Lib.hid (D.out.below hn)
              try replace TW := Lib.hid (TW.out.below hn)
              try replace M := Lib.hid (M.out.below hn)
              replace HB := Lib.hid (HB.out.trans (hn.mono HB.out.size))
              have TW := Lib.hid hvy
              clear hvy
              clear hbx hn)
           | (go_at_call 28; with_reducible refine (iadd_rd ((R.out.below (grow1 _ (.cells #[.bool false, .slice none 0 0] 25))).rds ZS.out) ((R.out.below (grow1 _ (.cells #[.bool false, .slice none 0 0] 25))).rds ZS.out) (by decide) (by decide)).mono ?_; rintro e wx ⟨⟨ux, rfl, hvx⟩, hbx⟩; obtain ⟨AT, ATn, ATc, rfl, hvy⟩ := hvx.open_; obtain ⟨dt, dth⟩ : ∃ dt, decide ((r + r) < 0) = dt := ⟨_, rfl⟩; rw [dth] at hvy ⊢; clear hvx dth
              have T0P := T0l
              have T1P := T1l
              have T2P := T2l
              have T3P := T3l
              have T4P := T4l
              try have N1P := N1l
              have hn := Below.trans (grow1 _ (.cells #[.bool false, .slice none 0 0] 25)) (hbx.mono (Below.size (grow1 _ (.cells #[.bool false, .slice none 0 0] 25))))
              try replace N1 := Lib.hid (N1.out.keep hn)
              try replace N2 := Lib.hid (N2.out.keep hn)
              first | (have _x := N1.out; have N2 := Lib.hid ((Two.made _ (.bool false) (.slice none 0 0)).keep hbx); clear _x) | have N1 := Lib.hid ((Two.made _ (.bool false) (.slice none 0 0)).keep hbx)
              replace T0 := Lib.hid (T0.out.keep hn)
              replace T1 := Lib.hid (T1.out.keep hn)
              replace T2 := Lib.hid (T2.out.keep hn)
              replace T3 := Lib.hid (T3.out.keep hn)
              replace T4 := Lib.hid (T4.out.keep hn)
              replace T0l := T0.out.lt
              replace T1l := T1.out.lt
              replace T2l := T2.out.lt
              replace T3l := T3.out.lt
              replace T4l := T4.out.lt
              replace T3a := T3.out.c0
              replace T3b := T3.out.c1
              replace T1a := T1.out.c0
              replace T1b := T1.out.c1
              try (have N1a := N1.out.c0; have N1b := N1.out.c1; have N1f := N1.out.fz 0; have N1g := N1.out.fz 1; have N1l := N1.out.lt)
              try (have N2a := N2.out.c0; have N2b := N2.out.c1; have N2f := N2.out.fz 0; have N2g := N2.out.fz 1; have N2l := N2.out.lt)
              replace S1 := Lib.hid (S1.out.below hn)
              replace S2 := Lib.hid (S2.out.below hn)
              replace N := Lib.hid (N.out.below hn)
              replace R := Lib.hid (R.out.below hn)
              replace D := Lib.hid (D.out.below hn)
              try replace TW := Lib.hid (TW.out.below hn)
              try replace M := Lib.hid (M.out.below hn)
              replace HB := Lib.hid (HB.out.trans (hn.mono HB.out.size))
              have TW := Lib.hid hvy
              clear hvy
              clear hbx hn)
           | (go_at_call 28; with_reducible refine (iadd_rd ((R.out.below (grow2 _ (.cells #[.bool false, .slice none 0 0] 25) (.cells #[.bool false, .slice none 0 0] 25))).rds ZS.out) ((R.out.below (grow2 _ (.cells #[.bool false, .slice none 0 0] 25) (.cells #[.bool false, .slice none 0 0] 25))).rds ZS.out) (by decide) (by decide)).mono ?_; rintro e wx ⟨⟨ux, rfl, hvx⟩, hbx⟩; obtain ⟨AT, ATn, ATc, rfl, hvy⟩ := hvx.open_; obtain ⟨dt, dth⟩ : ∃ dt, decide ((r + r) < 0) = dt := ⟨_, rfl⟩; rw [dth] at hvy ⊢; clear hvx dth
              have T0P := T0l
              have T1P := T1l
              have T2P := T2l
              have T3P := T3l
              have T4P := T4l
              try have N1P := N1l
              have hn := Below.trans (grow2 _ (.cells #[.bool false, .slice none 0 0] 25) (.cells #[.bool false, .slice none 0 0] 25)) (hbx.mono (Below.size (grow2 _ (.cells #[.bool false, .slice none 0 0] 25) (.cells #[.bool false, .slice none 0 0] 25))))
              try replace N1 := Lib.hid (N1.out.keep hn)
              try replace N2 := Lib.hid (N2.out.keep hn)
              have N1 := Lib.hid (((Two.made _ (.bool false) (.slice none 0 0)).alloc (.cells #[.bool false, .slice none 0 0] 25)).keep hbx)
              have N2 := Lib.hid ((Two.made2 _ (.cells #[.bool false, .slice none 0 0] 25) (.bool false) (.slice none 0 0)).keep hbx)
              replace T0 := Lib.hid (T0.out.keep hn)
              replace T1 := Lib.hid (T1.out.keep hn)
              replace T2 := Lib.hid (T2.out.keep hn)
              replace T3 := Lib.hid (T3.out.keep hn)
              replace T4 := Lib.hid (T4.out.keep hn)
              replace T0l := T0.out.lt
              replace T1l := T1.out.lt
              replace T2l := T2.out.lt
              replace T3l := T3.out.lt
              replace T4l := T4.out.lt
              replace T3a := T3.out.c0
              replace T3b := T3.out.c1
              replace T1a := T1.out.c0
              replace T1b := T1.out.c1
              try (have N1a := N1.out.c0; have N1b := N1.out.c1; have N1f := N1.out.fz 0; have N1g := N1.out.fz 1; have N1l := N1.out.lt)
              try (have N2a := N2.out.c0; have N2b := N2.out.c1; have N2f := N2.out.fz 0; have N2g := N2.out.fz 1; have N2l := N2.out.lt)
              replace S1 := Lib.hid (S1.out.below hn)
              replace S2 := Lib.hid (S2.out.below hn)
              replace N := Lib.hid (N.out.below hn)
              replace R := Lib.hid (R.out.below hn)
              replace D := Lib.hid (D.out.below hn)
              try replace TW := Lib.hid (TW.out.below hn)
              try replace M := Lib.hid (M.out.below hn)
              replace HB := Lib.hid (HB.out.trans (hn.mono HB.out.size))
              have TW := Lib.hid hvy
              clear hvy
              clear hbx hn)
           | (go_at_call 28; with_reducible refine (iadd_rd ((R.out.below (grow1d wc26 (.cells #[.bool false, .slice none 0 0] 25))).rds ZS.out) ((R.out.below (grow1d wc26 (.cells #[.bool false, .slice none 0 0] 25))).rds ZS.out) (by decide) (by decide)).mono ?_; rintro e wx ⟨⟨ux, rfl, hvx⟩, hbx⟩; obtain ⟨AT, ATn, ATc, rfl, hvy⟩ := hvx.open_; obtain ⟨dt, dth⟩ : ∃ dt, decide ((r + r) < 0) = dt := ⟨_, rfl⟩; rw [dth] at hvy ⊢; clear hvx dth
              have T0P := T0l
              have T1P := T1l
              have T2P := T2l
              have T3P := T3l
              have T4P := T4l
              try have N1P := N1l
              have hn := Below.trans (grow1d wc26 (.cells #[.bool false, .slice none 0 0] 25)) (hbx.mono (Below.size (grow1d wc26 (.cells #[.bool false, .slice none 0 0] 25))))
              try replace N1 := Lib.hid (N1.out.keep hn)
              try replace N2 := Lib.hid (N2.out.keep hn)
              first | (have _x := N1.out; have N2 := Lib.hid ((Two.made _ (.bool false) (.slice none 0 0)).drew.keep hbx); clear _x) | have N1 := Lib.hid ((Two.made _ (.bool false) (.slice none 0 0)).drew.keep hbx)
              replace T0 := Lib.hid (T0.out.keep hn)
              replace T1 := Lib.hid (T1.out.keep hn)
              replace T2 := Lib.hid (T2.out.keep hn)
              replace T3 := Lib.hid (T3.out.keep hn)
              replace T4 := Lib.hid (T4.out.keep hn)
              replace T0l := T0.out.lt
              replace T1l := T1.out.lt
              replace T2l := T2.out.lt
              replace T3l := T3.out.lt
              replace T4l := T4.out.lt
              replace T3a := T3.out.c0
              replace T3b := T3.out.c1
              replace T1a := T1.out.c0
              replace T1b := T1.out.c1
              try (have N1a := N1.out.c0; have N1b := N1.out.c1; have N1f := N1.out.fz 0; have N1g := N1.out.fz 1; have N1l := N1.out.lt)
              try (have N2a := N2.out.c0; have N2b := N2.out.c1; have N2f := N2.out.fz 0; have N2g := N2.out.fz 1; have N2l := N2.out.lt)
              replace S1 := Lib.hid (S1.out.below hn)
              replace S2 := Lib.hid (S2.out.below hn)
              replace N := Lib.hid (N.out.below hn)
              replace R := Lib.hid (R.out.below hn)
              replace D := Lib.hid (D.out.below hn)
              try replace TW := Lib.hid (TW.out.below hn)
              try replace M := Lib.hid (M.out.below hn)
              replace HB := Lib.hid (HB.out.trans (hn.mono HB.out.size))
              have TW := Lib.hid hvy
              clear hvy
              clear hbx hn)
           | (go_at_call 28; with_reducible refine (iadd_rd ((R.out.below (grow2d wc26 (.cells #[.bool false, .slice none 0 0] 25) (.cells #[.bool false, .slice none 0 0] 25))).rds ZS.out) ((R.out.below (grow2d wc26 (.cells #[.bool false, .slice none 0 0] 25) (.cells #[.bool false, .slice none 0 0] 25))).rds ZS.out) (by decide) (by decide)).mono ?_; rintro e wx ⟨⟨ux, rfl, hvx⟩, hbx⟩; obtain ⟨AT, ATn, ATc, rfl, hvy⟩ := hvx.open_; obtain ⟨dt, dth⟩ : ∃ dt, decide ((r + r) < 0) = dt := ⟨_, rfl⟩; rw [dth] at hvy ⊢; clear hvx dth
              have T0P := T0l
              have T1P := T1l
              have T2P := T2l
              have T3P := T3l
              have T4P := T4l
              try have N1P := N1l
              have hn := Below.trans (grow2d wc26 (.cells #[.bool false, .slice none 0 0] 25) (.cells #[.bool false, .slice none 0 0] 25)) (hbx.mono (Below.size (grow2d wc26 (.cells #[.bool false, .slice none 0 0] 25) (.cells #[.bool false, .slice none 0 0] 25))))
              try replace N1 := Lib.hid (N1.out.keep hn)
              try replace N2 := Lib.hid (N2.out.keep hn)
              have N1 := Lib.hid (((Two.made _ (.bool false) (.slice none 0 0)).alloc (.cells #[.bool false, .slice none 0 0] 25)).drew.keep hbx)
              have N2 := Lib.hid ((Two.made2 _ (.cells #[.bool false, .slice none 0 0] 25) (.bool false) (.slice none 0 0)).drew.keep hbx)
              replace T0 := Lib.hid (T0.out.keep hn)
              replace T1 := Lib.hid (T1.out.keep hn)
              replace T2 := Lib.hid (T2.out.keep hn)
              replace T3 := Lib.hid (T3.out.keep hn)
              replace T4 := Lib.hid (T4.out.keep hn)
              replace T0l := T0.out.lt
              replace T1l := T1.out.lt
              replace T2l := T2.out.lt
              replace T3l := T3.out.lt
              replace T4l := T4.out.lt
              replace T3a := T3.out.c0
              replace T3b := T3.out.c1
              replace T1a := T1.out.c0
              replace T1b := T1.out.c1
              try (have N1a := N1.out.c0; have N1b := N1.out.c1; have N1f := N1.out.fz 0; have N1g := N1.out.fz 1; have N1l := N1.out.lt)
              try (have N2a := N2.out.c0; have N2b := N2.out.c1; have N2f := N2.out.fz 0; have N2g := N2.out.fz 1; have N2l := N2.out.lt)
              replace S1 := Lib.hid (S1.out.below hn)
              replace S2 := Lib.hid (S2.out.below hn)
              replace N := Lib.hid (N.out.below hn)
              replace R := Lib.hid (R.out.below hn)
              replace D := Lib.hid (D.out.below hn)
              try replace TW := Lib.hid (TW.out.below hn)
              try replace M := Lib.hid (M.out.below hn)
              replace HB := Lib.hid (HB.out.trans (hn.mono HB.out.size))
              have TW := Lib.hid hvy
              clear hvy
              clear hbx hn)
           | (go_at_call 26; with_reducible refine (iabs_rd S2.out).mono ?_; rintro e wx ⟨⟨ux, rfl, hvx⟩, hbx⟩; obtain ⟨AM, AMn, AMc, rfl, hvy⟩ := hvx.open_; obtain ⟨dm, dmh⟩ : ∃ dm, decide ((b.natAbs : Int) < 0) = dm := ⟨_, rfl⟩; rw [dmh] at hvy ⊢; clear hvx dmh
              have hn := hbx
              try replace N1 := Lib.hid (N1.out.keep hn)
              try replace N2 := Lib.hid (N2.out.keep hn)
              replace T0 := Lib.hid (T0.out.keep hn)
              replace T1 := Lib.hid (T1.out.keep hn)
              replace T2 := Lib.hid (T2.out.keep hn)
              replace T3 := Lib.hid (T3.out.keep hn)
              replace T4 := Lib.hid (T4.out.keep hn)
              replace T0l := T0.out.lt
              replace T1l := T1.out.lt
              replace T2l := T2.out.lt
              replace T3l := T3.out.lt
              replace T4l := T4.out.lt
              replace T3a := T3.out.c0
              replace T3b := T3.out.c1
              replace T1a := T1.out.c0
              replace T1b := T1.out.c1
              try (have N1a := N1.out.c0; have N1b := N1.out.c1; have N1f := N1.out.fz 0; have N1g := N1.out.fz 1; have N1l := N1.out.lt)
              try (have N2a := N2.out.c0; have N2b := N2.out.c1; have N2f := N2.out.fz 0; have N2g := N2.out.fz 1; have N2l := N2.out.lt)
              replace S1 := Lib.hid (S1.out.below hn)
              replace S2 := Lib.hid (S2.out.below hn)
              replace N := Lib.hid (N.out.below hn)
              replace R := Lib.hid (R.out.below hn)
              replace D := Lib.hid (D.out.below hn)
              try replace TW := Lib.hid (TW.out.below hn)
              try replace M := Lib.hid (M.out.below hn)
              replace HB := Lib.hid (HB.out.trans (hn.mono HB.out.size))
              have M := Lib.hid hvy
              clear hvy
              clear hbx hn)
           | (go_at_call 26; with_reducible refine (iabs_rd (S2.out.below (grow1 _ (.cells #[.bool false, .slice none 0 0] 25)))).mono ?_; rintro e wx ⟨⟨ux, rfl, hvx⟩, hbx⟩; obtain ⟨AM, AMn, AMc, rfl, hvy⟩ := hvx.open_; obtain ⟨dm, dmh⟩ : ∃ dm, decide ((b.natAbs : Int) < 0) = dm := ⟨_, rfl⟩; rw [dmh] at hvy ⊢; clear hvx dmh
              have T0P := T0l
              have T1P := T1l
              have T2P := T2l
              have T3P := T3l
              have T4P := T4l
              try have N1P := N1l
              have hn := Below.trans (grow1 _ (.cells #[.bool false, .slice none 0 0] 25)) (hbx.mono (Below.size (grow1 _ (.cells #[.bool false, .slice none 0 0] 25))))
              try replace N1 := Lib.hid (N1.out.keep hn)
              try replace N2 := Lib.hid (N2.out.keep hn)
              first | (have _x := N1.out; have N2 := Lib.hid ((Two.made _ (.bool false) (.slice none 0 0)).keep hbx); clear _x) | have N1 := Lib.hid ((Two.made _ (.bool false) (.slice none 0 0)).keep hbx)
              replace T0 := Lib.hid (T0.out.keep hn)
              replace T1 := Lib.hid (T1.out.keep hn)
              replace T2 := Lib.hid (T2.out.keep hn)
              replace T3 := Lib.hid (T3.out.keep hn)
              replace T4 := Lib.hid (T4.out.keep hn)
              replace T0l := T0.out.lt
              replace T1l := T1.out.lt
              replace T2l := T2.out.lt
              replace T3l := T3.out.lt
              replace T4l := T4.out.lt
              replace T3a := T3.out.c0
              replace T3b := T3.out.c1
              replace T1a := T1.out.c0
              replace T1b := T1.out.c1
              try (have N1a := N1.out.c0; have N1b := N1.out.c1; have N1f := N1.out.fz 0; have N1g := N1.out.fz 1; have N1l := N1.out.lt)
              try (have N2a := N2.out.c0; have N2b := N2.out.c1; have N2f := N2.out.fz 0; have N2g := N2.out.fz 1; have N2l := N2.out.lt)
              replace S1 := Lib.hid (S1.out.below hn)
              replace S2 := Lib.hid (S2.out.below hn)
              replace N := Lib.hid (N.out.below hn)
              replace R := Lib.hid (R.out.below hn)
              replace D := Lib.hid (D.out.below hn)
              try replace TW := Lib.hid (TW.out.below hn)
              try replace M := Lib.hid (M.out.below hn)
              replace HB := Lib.hid (HB.out.trans (hn.mono HB.out.size))
              have M := Lib.hid hvy
              clear hvy
              clear hbx hn)
           | (go_at_call 26; with_reducible refine (iabs_rd (S2.out.below (grow2 _ (.cells #[.bool false, .slice none 0 0] 25) (.cells #[.bool false, .slice none 0 0] 25)))).mono ?_; rintro e wx ⟨⟨ux, rfl, hvx⟩, hbx⟩; obtain ⟨AM, AMn, AMc, rfl, hvy⟩ := hvx.open_; obtain ⟨dm, dmh⟩ : ∃ dm, decide ((b.natAbs : Int) < 0) = dm := ⟨_, rfl⟩; rw [dmh] at hvy ⊢; clear hvx dmh
              have T0P := T0l
              have T1P := T1l
              have T2P := T2l
              have T3P := T3l
              have T4P := T4l
              try have N1P := N1l
              have hn := Below.trans (grow2 _ (.cells #[.bool false, .slice none 0 0] 25) (.cells #[.bool false, .slice none 0 0] 25)) (hbx.mono (Below.size (grow2 _ (.cells #[.bool false, .slice none 0 0] 25) (.cells #[.bool false, .slice none 0 0] 25))))
              try replace N1 := Lib.hid (N1.out.keep hn)
              try replace N2 := Lib.hid (N2.out.keep hn)
              have N1 := Lib.hid (((Two.made _ (.bool false) (.slice none 0 0)).alloc (.cells #[.bool false, .slice none 0 0] 25)).keep hbx)
              have N2 := Lib.hid ((Two.made2 _ (.cells #[.bool false, .slice none 0 0] 25) (.bool false) (.slice none 0 0)).keep hbx)
              replace T0 := Lib.hid (T0.out.keep hn)
              replace T1 := Lib.hid (T1.out.keep hn)
              replace T2 := Lib.hid (T2.out.keep hn)
              replace T3 := Lib.hid (T3.out.keep hn)
              replace T4 := Lib.hid (T4.out.keep hn)
              replace T0l := T0.out.lt
              replace T1l := T1.out.lt
              replace T2l := T2.out.lt
              replace T3l := T3.out.lt
              replace T4l := T4.out.lt
              replace T3a := T3.out.c0
              replace T3b := T3.out.c1
              replace T1a := T1.out.c0
              replace T1b := T1.out.c1
              try (have N1a := N1.out.c0; have N1b := N1.out.c1; have N1f := N1.out.fz 0; have N1g := N1.out.fz 1; have N1l := N1.out.lt)
              try (have N2a := N2.out.c0; have N2b := N2.out.c1; have N2f := N2.out.fz 0; have N2g := N2.out.fz 1; have N2l := N2.out.lt)
              replace S1 := Lib.hid (S1.out.below hn)
              replace S2 := Lib.hid (S2.out.below hn)
              replace N := Lib.hid (N.out.below hn)
              replace R := Lib.hid (R.out.below hn)
              replace D := Lib.hid (D.out.below hn)
              try replace TW := Lib.hid (TW.out.below hn)
              try replace M := Lib.hid (M.out.below hn)
              replace HB := Lib.hid (HB.out.trans (hn.mono HB.out.size))
              have M := Lib.hid hvy
              clear hvy
              clear hbx hn)
           | (go_at_call 26; with_reducible refine (iabs_rd (S2.out.below (grow1d wc26 (.cells #[.bool false, .slice none 0 0] 25)))).mono ?_; rintro e wx ⟨⟨ux, rfl, hvx⟩, hbx⟩; obtain ⟨AM, AMn, AMc, rfl, hvy⟩ := hvx.open_; obtain ⟨dm, dmh⟩ : ∃ dm, decide ((b.natAbs : Int) < 0) = dm := ⟨_, rfl⟩; rw [dmh] at hvy ⊢; clear hvx dmh
              have T0P := T0l
              have T1P := T1l
              have T2P := T2l
              have T3P := T3l
              have T4P := T4l
              try have N1P := N1l
              have hn := Below.trans (grow1d wc26 (.cells #[.bool false, .slice none 0 0] 25)) (hbx.mono (Below.size (grow1d wc26 (.cells #[.bool false, .slice none 0 0] 25))))
              try replace N1 := Lib.hid (N1.out.keep hn)
              try replace N2 := Lib.hid (N2.out.keep hn)
              first | (have _x := N1.out; have N2 := Lib.hid ((Two.made _ (.bool false) (.slice none 0 0)).drew.keep hbx); clear _x) | have N1 := Lib.hid ((Two.made _ (.bool false) (.slice none 0 0)).drew.keep hbx)
              replace T0 := Lib.hid (T0.out.keep hn)
              replace T1 := Lib.hid (T1.out.keep hn)
              replace T2 := Lib.hid (T2.out.keep hn)
              replace T3 := Lib.hid (T3.out.keep hn)
              replace T4 := Lib.hid (T4.out.keep hn)
              replace T0l := T0.out.lt
              replace T1l := T1.out.lt
              replace T2l := T2.out.lt
              replace T3l := T3.out.lt
              replace T4l := T4.out.lt
              replace T3a := T3.out.c0
              replace T3b := T3.out.c1
              replace T1a := T1.out.c0
              replace T1b := T1.out.c1
              try (have N1a := N1.out.c0; have N1b := N1.out.c1; have N1f := N1.out.fz 0; have N1g := N1.out.fz 1; have N1l := N1.out.lt)
              try (have N2a := N2.out.c0; have N2b := N2.out.c1; have N2f := N2.out.fz 0; have N2g := N2.out.fz 1; have N2l := N2.out.lt)
              replace S1 := Lib.hid (S1.out.below hn)
              replace S2 := Lib.hid (S2.out.below hn)
              replace N := Lib.hid (N.out.below hn)
              replace R := Lib.hid (R.out.below hn)
              replace D := Lib.hid (D.out.below hn)
              try replace TW := Lib.hid (TW.out.below hn)
              try replace M := Lib.hid (M.out.below hn)
              replace HB := Lib.hid (HB.out.trans (hn.mono HB.out.size))
              have M := Lib.hid hvy
              clear hvy
              clear hbx hn)
           | (go_at_call 26; with_reducible refine (iabs_rd (S2.out.below (grow2d wc26 (.cells #[.bool false, .slice none 0 0] 25) (.cells #[.bool false, .slice none 0 0] 25)))).mono ?_; rintro e wx ⟨⟨ux, rfl, hvx⟩, hbx⟩; obtain ⟨AM, AMn, AMc, rfl, hvy⟩ := hvx.open_; obtain ⟨dm, dmh⟩ : ∃ dm, decide ((b.natAbs : Int) < 0) = dm := ⟨_, rfl⟩; rw [dmh] at hvy ⊢; clear hvx dmh
              have T0P := T0l
              have T1P := T1l
              have T2P := T2l
              have T3P := T3l
              have T4P := T4l
              try have N1P := N1l
              have hn := Below.trans (grow2d wc26 (.cells #[.bool false, .slice none 0 0] 25) (.cells #[.bool false, .slice none 0 0] 25)) (hbx.mono (Below.size (grow2d wc26 (.cells #[.bool false, .slice none 0 0] 25) (.cells #[.bool false, .slice none 0 0] 25))))
              try replace N1 := Lib.hid (N1.out.keep hn)
              try replace N2 := Lib.hid (N2.out.keep hn)
              have N1 := Lib.hid (((Two.made _ (.bool false) (.slice none 0 0)).alloc (.cells #[.bool false, .slice none 0 0] 25)).drew.keep hbx)
              have N2 := Lib.hid ((Two.made2 _ (.cells #[.bool false, .slice none 0 0] 25) (.bool false) (.slice none 0 0)).drew.keep hbx)
              replace T0 := Lib.hid (T0.out.keep hn)
              replace T1 := Lib.hid (T1.out.keep hn)
              replace T2 := Lib.hid (T2.out.keep hn)
              replace T3 := Lib.hid (T3.out.keep hn)
              replace T4 := Lib.hid (T4.out.keep hn)
              replace T0l := T0.out.lt
              replace T1l := T1.out.lt
              replace T2l := T2.out.lt
              replace T3l := T3.out.lt
              replace T4l := T4.out.lt
              replace T3a := T3.out.c0
              replace T3b := T3.out.c1
              replace T1a := T1.out.c0
              replace T1b := T1.out.c1
              try (have N1a := N1.out.c0; have N1b := N1.out.c1; have N1f := N1.out.fz 0; have N1g := N1.out.fz 1; have N1l := N1.out.lt)
              try (have N2a := N2.out.c0; have N2b := N2.out.c1; have N2f := N2.out.fz 0; have N2g := N2.out.fz 1; have N2l := N2.out.lt)
              replace S1 := Lib.hid (S1.out.below hn)
              replace S2 := Lib.hid (S2.out.below hn)
              replace N := Lib.hid (N.out.below hn)
              replace R := Lib.hid (R.out.below hn)
              replace D := Lib.hid (D.out.below hn)
              try replace TW := Lib.hid (TW.out.below hn)
              try replace M := Lib.hid (M.out.below hn)
              replace HB := Lib.hid (HB.out.trans (hn.mono HB.out.size))
              have M := Lib.hid hvy
              clear hvy
              clear hbx hn))
        all_goals
          rename_i hH
          clear hH
          go_wp2_with fail
          go_meet
          refine ⟨_, dt, AT, ATn, ATc, _, dm, AM, AMn, AMc, rfl, rfl, ?_, ?_, ?_, ?_, ?_, ?_, ?_, ?_, ?_, ?_, ?_, ?_, ?_, ?_, ?_⟩ <;> (repeat (first | with_reducible exact T0.out | with_reducible exact T1.out | with_reducible exact T2.out | with_reducible exact T3.out | with_reducible exact T4.out | with_reducible exact N1.out | with_reducible exact N2.out | with_reducible exact S1.out | with_reducible exact S2.out | with_reducible exact N.out | with_reducible exact R.out | with_reducible exact D.out | with_reducible exact TW.out | with_reducible exact M.out | with_reducible exact HB.out | with_reducible exact Bs.of N1.out | with_reducible exact Bs.of N2.out | with_reducible exact Bs.of T0.out | with_reducible exact Bs.of T1.out | with_reducible exact Bs.of T2.out | with_reducible exact Bs.of T3.out | with_reducible exact Bs.of T4.out | with_reducible refine Two.st ?_ _ _ | (with_reducible refine Two.ot ?_ ?hne _ _; case hne => omega) | (with_reducible refine Two.mk' ?_ _ _; (first | with_reducible rfl | omega | (simp; done))) | with_reducible refine Two.alloc ?_ _ | with_reducible refine Bs.same ?_ _ _ _ _ | (with_reducible refine Bs.ot ?_ ?hne _ _; case hne => omega) | (with_reducible refine Bs.mk' ?_ _ _ _ _; (first | with_reducible rfl | omega | (simp; done))) | with_reducible refine Bs.al ?_ _ | with_reducible refine In.st ?_ ?_ _ _ | with_reducible refine In.al ?_ _ | with_reducible refine Rd.st ?_ ?_ _ _ | with_reducible refine Rd.al ?_ _ | (with_reducible refine Below.st ?_ ?hne _ _; case hne => omega) | with_reducible refine Below.al ?_ _))
      case rest =>
        obtain ⟨gT5, dt, AT, ATn, ATc, gT6, dm, AM, AMn, AMc, rfl, rfl, T5p, T6p, TWp, Mp, T0p, T1p, T2p, T3p, T4p, S1p, S2p, Np, Rp, Dp, HBp⟩ := hcut
        replace T0 := Lib.hid T0p
        clear T0p
        replace T1 := Lib.hid T1p
        clear T1p
        replace T2 := Lib.hid T2p
        clear T2p
        replace T3 := Lib.hid T3p
        clear T3p
        replace T4 := Lib.hid T4p
        clear T4p
        replace S1 := Lib.hid S1p
        clear S1p
        replace S2 := Lib.hid S2p
        clear S2p
        replace N := Lib.hid Np
        clear Np
        replace R := Lib.hid Rp
        clear Rp
        replace D := Lib.hid Dp
        clear Dp
        replace HB := Lib.hid HBp
        clear HBp
        have T5 := Lib.hid T5p
        have TW := Lib.hid TWp
        clear T5p TWp
        have T6 := Lib.hid T6p
        have M := Lib.hid Mp
        clear T6p Mp
        go_wp2_with fail
        replace T0 := Lib.hid T0.out.drew
        replace T1 := Lib.hid T1.out.drew
        replace T2 := Lib.hid T2.out.drew
        replace T3 := Lib.hid T3.out.drew
        replace T4 := Lib.hid T4.out.drew
        replace T5 := Lib.hid T5.out.drew
        replace T6 := Lib.hid T6.out.drew
        replace S1 := Lib.hid S1.out.drew
        replace S2 := Lib.hid S2.out.drew
        replace N := Lib.hid N.out.drew
        replace R := Lib.hid R.out.drew
        replace D := Lib.hid D.out.drew
        replace TW := Lib.hid TW.out.drew
        replace M := Lib.hid M.out.drew
        replace HB := Lib.hid (below_drewN HB.out 1)
        have T5a := T5.out.c0
        have T5b := T5.out.c1
        have T6a := T6.out.c0
        have T6b := T6.out.c1
        have T1a := T1.out.c0
        have T1b := T1.out.c1
        have T0a := T0.out.c0
        have T0b := T0.out.c1
        have T3a := T3.out.c0
        have T3b := T3.out.c1
        go_region_held3 (fun w' => w'.cell? ⟨gT5, 0, none⟩ = some (.bool dt) ∧ w'.cell? ⟨gT5, 1, none⟩ = some (.slice AT ATn ATc) ∧ w'.cell? ⟨gT6, 0, none⟩ = some (.bool dm) ∧ w'.cell? ⟨gT6, 1, none⟩ = some (.slice AM AMn AMc) ∧ w'.cell? ⟨w.heap.size + 1, 0, none⟩ = some (.bool g2) ∧ w'.cell? ⟨w.heap.size + 1, 1, none⟩ = some (.slice A2 l2.length c2) ∧ w'.cell? ⟨w.heap.size, 0, none⟩ = some (.bool g1) ∧ w'.cell? ⟨w.heap.size, 1, none⟩ = some (.slice A1 l1.length c1) ∧ w'.cell? ⟨wc15.heap.size, 0, none⟩ = some (.bool dr) ∧ w'.cell? ⟨wc15.heap.size, 1, none⟩ = some (.slice AR ARn ARc))
          ((first | (refine ⟨?_, ?_, ?_, ?_, ?_, ?_, ?_, ?_, ?_, ?_⟩ <;> (with_reducible assumption))))
          (first
           | (go_at_call 25; with_reducible refine (icmp_is (TW.out.rds (ZS.out.add ZS.out)) (M.out.rds Z2.out.abs) HC2.out).mono ?_; rintro e wy28 ⟨rfl, hbx⟩
              replace T0 := Lib.hid (T0.out.keep hbx)
              replace T1 := Lib.hid (T1.out.keep hbx)
              replace T2 := Lib.hid (T2.out.keep hbx)
              replace T3 := Lib.hid (T3.out.keep hbx)
              replace T4 := Lib.hid (T4.out.keep hbx)
              replace T5 := Lib.hid (T5.out.keep hbx)
              replace T6 := Lib.hid (T6.out.keep hbx)
              replace T5a := T5.out.c0
              replace T5b := T5.out.c1
              replace T6a := T6.out.c0
              replace T6b := T6.out.c1
              replace T1a := T1.out.c0
              replace T1b := T1.out.c1
              replace T0a := T0.out.c0
              replace T0b := T0.out.c1
              replace T3a := T3.out.c0
              replace T3b := T3.out.c1
              replace S1 := Lib.hid (S1.out.below hbx)
              replace S2 := Lib.hid (S2.out.below hbx)
              replace N := Lib.hid (N.out.below hbx)
              replace R := Lib.hid (R.out.below hbx)
              replace D := Lib.hid (D.out.below hbx)
              replace TW := Lib.hid (TW.out.below hbx)
              replace M := Lib.hid (M.out.below hbx)
              try replace X1 := Lib.hid (X1.out.below hbx)
              try replace X2 := Lib.hid (X2.out.below hbx)
              replace HB := Lib.hid (HB.out.trans (hbx.mono HB.out.size))
              clear hbx)
           | (go_at_call 32; with_reducible refine (ineg_rd (M.out.rds Z2.out.abs)).mono ?_; rintro e wy28 ⟨⟨ux, rfl, hvx⟩, hbx⟩; obtain ⟨AX, AXn, AXc, rfl, hvy⟩ := hvx.open_; obtain ⟨dx1, dx1h⟩ : ∃ dx1, decide ((-(b.natAbs : Int)) < 0) = dx1 := ⟨_, rfl⟩; rw [dx1h] at hvy ⊢; clear hvx dx1h
              replace T0 := Lib.hid (T0.out.keep hbx)
              replace T1 := Lib.hid (T1.out.keep hbx)
              replace T2 := Lib.hid (T2.out.keep hbx)
              replace T3 := Lib.hid (T3.out.keep hbx)
              replace T4 := Lib.hid (T4.out.keep hbx)
              replace T5 := Lib.hid (T5.out.keep hbx)
              replace T6 := Lib.hid (T6.out.keep hbx)
              replace T5a := T5.out.c0
              replace T5b := T5.out.c1
              replace T6a := T6.out.c0
              replace T6b := T6.out.c1
              replace T1a := T1.out.c0
              replace T1b := T1.out.c1
              replace T0a := T0.out.c0
              replace T0b := T0.out.c1
              replace T3a := T3.out.c0
              replace T3b := T3.out.c1
              replace S1 := Lib.hid (S1.out.below hbx)
              replace S2 := Lib.hid (S2.out.below hbx)
              replace N := Lib.hid (N.out.below hbx)
              replace R := Lib.hid (R.out.below hbx)
              replace D := Lib.hid (D.out.below hbx)
              replace TW := Lib.hid (TW.out.below hbx)
              replace M := Lib.hid (M.out.below hbx)
              try replace X1 := Lib.hid (X1.out.below hbx)
              try replace X2 := Lib.hid (X2.out.below hbx)
              replace HB := Lib.hid (HB.out.trans (hbx.mono HB.out.size))
              have X1 := Lib.hid hvy
              clear hvy
              clear hbx)
           | (go_at_call 25; with_reducible refine (icmp_is (TW.out.rds (ZS.out.add ZS.out)) (X1.out.rds Z2.out.abs.neg) HC3.out).mono ?_; rintro e wy28 ⟨rfl, hbx⟩
              replace T0 := Lib.hid (T0.out.keep hbx)
              replace T1 := Lib.hid (T1.out.keep hbx)
              replace T2 := Lib.hid (T2.out.keep hbx)
              replace T3 := Lib.hid (T3.out.keep hbx)
              replace T4 := Lib.hid (T4.out.keep hbx)
              replace T5 := Lib.hid (T5.out.keep hbx)
              replace T6 := Lib.hid (T6.out.keep hbx)
              replace T5a := T5.out.c0
              replace T5b := T5.out.c1
              replace T6a := T6.out.c0
              replace T6b := T6.out.c1
              replace T1a := T1.out.c0
              replace T1b := T1.out.c1
              replace T0a := T0.out.c0
              replace T0b := T0.out.c1
              replace T3a := T3.out.c0
              replace T3b := T3.out.c1
              replace S1 := Lib.hid (S1.out.below hbx)
              replace S2 := Lib.hid (S2.out.below hbx)
              replace N := Lib.hid (N.out.below hbx)
              replace R := Lib.hid (R.out.below hbx)
              replace D := Lib.hid (D.out.below hbx)
              replace TW := Lib.hid (TW.out.below hbx)
              replace M := Lib.hid (M.out.below hbx)
              try replace X1 := Lib.hid (X1.out.below hbx)
              try replace X2 := Lib.hid (X2.out.below hbx)
              replace HB := Lib.hid (HB.out.trans (hbx.mono HB.out.size))
              clear hbx)
           | (go_at_call 37; with_reducible refine (isub_rd S1.out (R.out.rds ZS.out) (by decide) (by decide)).mono ?_; rintro e wy28 ⟨⟨ux, rfl, hvx⟩, hbx⟩; obtain ⟨AY, AYn, AYc, rfl, hvy⟩ := hvx.open_; obtain ⟨dx2, dx2h⟩ : ∃ dx2, decide ((a - r) < 0) = dx2 := ⟨_, rfl⟩; rw [dx2h] at hvy ⊢; clear hvx dx2h
              replace T0 := Lib.hid (T0.out.keep hbx)
              replace T1 := Lib.hid (T1.out.keep hbx)
              replace T2 := Lib.hid (T2.out.keep hbx)
              replace T3 := Lib.hid (T3.out.keep hbx)
              replace T4 := Lib.hid (T4.out.keep hbx)
              replace T5 := Lib.hid (T5.out.keep hbx)
              replace T6 := Lib.hid (T6.out.keep hbx)
              replace T5a := T5.out.c0
              replace T5b := T5.out.c1
              replace T6a := T6.out.c0
              replace T6b := T6.out.c1
              replace T1a := T1.out.c0
              replace T1b := T1.out.c1
              replace T0a := T0.out.c0
              replace T0b := T0.out.c1
              replace T3a := T3.out.c0
              replace T3b := T3.out.c1
              replace S1 := Lib.hid (S1.out.below hbx)
              replace S2 := Lib.hid (S2.out.below hbx)
              replace N := Lib.hid (N.out.below hbx)
              replace R := Lib.hid (R.out.below hbx)
              replace D := Lib.hid (D.out.below hbx)
              replace TW := Lib.hid (TW.out.below hbx)
              replace M := Lib.hid (M.out.below hbx)
              try replace X1 := Lib.hid (X1.out.below hbx)
              try replace X2 := Lib.hid (X2.out.below hbx)
              replace HB := Lib.hid (HB.out.trans (hbx.mono HB.out.size))
              have X2 := Lib.hid hvy
              clear hvy
              clear hbx)
           | (go_at_call 17; with_reducible refine (divides_is S2.out (X2.out.rds (k := 12) ((Z1.out.mono (by decide)).sub ZS.out)) (by decide) (by decide) HDV.out).mono ?_; rintro e wy28 ⟨rfl, hbx⟩
              replace T0 := Lib.hid (T0.out.keep hbx)
              replace T1 := Lib.hid (T1.out.keep hbx)
              replace T2 := Lib.hid (T2.out.keep hbx)
              replace T3 := Lib.hid (T3.out.keep hbx)
              replace T4 := Lib.hid (T4.out.keep hbx)
              replace T5 := Lib.hid (T5.out.keep hbx)
              replace T6 := Lib.hid (T6.out.keep hbx)
              replace T5a := T5.out.c0
              replace T5b := T5.out.c1
              replace T6a := T6.out.c0
              replace T6b := T6.out.c1
              replace T1a := T1.out.c0
              replace T1b := T1.out.c1
              replace T0a := T0.out.c0
              replace T0b := T0.out.c1
              replace T3a := T3.out.c0
              replace T3b := T3.out.c1
              replace S1 := Lib.hid (S1.out.below hbx)
              replace S2 := Lib.hid (S2.out.below hbx)
              replace N := Lib.hid (N.out.below hbx)
              replace R := Lib.hid (R.out.below hbx)
              replace D := Lib.hid (D.out.below hbx)
              replace TW := Lib.hid (TW.out.below hbx)
              replace M := Lib.hid (M.out.below hbx)
              try replace X1 := Lib.hid (X1.out.below hbx)
              try replace X2 := Lib.hid (X2.out.below hbx)
              replace HB := Lib.hid (HB.out.trans (hbx.mono HB.out.size))
              clear hbx))
        all_goals
          rename_i hH
          clear hH
          go_wp2_with fail
          go_ret
          exact ⟨rfl, HB.out⟩

theorem walk (v1 : Value) (g1 : Bool) (l1 : List Nat) (v2 : Value) (g2 : Bool) (l2 : List Nat) (w : World) (h1 : Iv w v1 g1 l1) (h2 : Iv w v2 g2 l2) :
    Calls Try.prog 7 #[v1, v2] w fun e w' => e = .returned (.bool true) ∧ Below w.heap.size w w' := by
  cases hf : few3 10 l1.length l2.length l1.length
  · exact few_no v1 v2 g1 g2 l1 l2 w h1 h2 hf
  · by_cases hz : iz g2 l2 = 0
    · exact zero v1 v2 g1 g2 l1 l2 w h1 h2 hf hz
    · by_cases ht : ((iz g1 l1 - rn (iz g1 l1) (iz g2 l2) * iz g2 l2).natAbs : Int) + ((iz g1 l1 - rn (iz g1 l1) (iz g2 l2) * iz g2 l2).natAbs : Int) = ((iz g2 l2).natAbs : Int)
      · exact main_tie v1 v2 g1 g2 l1 l2 w h1 h2 hf hz ht
      · exact main_less v1 v2 g1 g2 l1 l2 w h1 h2 hf hz ht

end Go.Proofs.Ytgmooidagkbheaa.rounds
