/-
  cylinderlaw03.DivisionBack returns true: quotient times divisor plus remainder is the dividend.
-/
import Derived.Test.YtgmooidagkbheaaAw
namespace Go.Proofs.Ytgmooidagkbheaa.back
open Go.RowKit Go.Proofs.YtgmooidagkbheaaW.PrintWords
set_option linter.unusedVariables false

set_option maxHeartbeats 4000000 in
set_option maxRecDepth 100000 in
theorem few_no (v1 v2 : Value) (g1 g2 : Bool) (l1 l2 : List Nat) (w : World) (h1 : Iv w v1 g1 l1) (h2 : Iv w v2 g2 l2) (hf : few3 30 l1.length l2.length l1.length = false) :
    Calls Try.prog 4 #[v1, v2] w fun e w' => e = .returned (.bool true) ∧ Below w.heap.size w w' := by
  obtain ⟨A1, c1, rfl, _, _, hs1⟩ := h1.open_
  obtain ⟨A2, c2, rfl, _, _, hs2⟩ := h2.open_
  have hbx := boxes2 w (.bool g1) (.slice A1 l1.length c1) (.bool g2) (.slice A2 l2.length c2)
  generalize hW : (w.alloc (.cells #[.bool g1, .slice A1 l1.length c1] 25)).alloc (.cells #[.bool g2, .slice A2 l2.length c2] 25) = W at hbx
  obtain ⟨hbw, ht0, ht1⟩ := hbx
  have T0 := Lib.hid ht0
  have T1 := Lib.hid ht1
  have I1 := Lib.hid (h1.below hbw)
  have I2 := Lib.hid (h2.below hbw)
  have HB := Lib.hid hbw
  have HW := Lib.hid hW
  have HFE := Lib.hid hf
  clear h1 h2 hs1 hs2 hbw ht0 ht1 hW hf
  have T0a := T0.out.c0
  have T0b := T0.out.c1
  have T1a := T1.out.c0
  have T1b := T1.out.c1
  go_enter Try.func4, Try.ntmps4
  go_wp2_with fail
  rw [HW.out]
  have HC1 := awake_calls W
  refine (HC1).mono ?_
  rintro e wc2 ⟨rfl, hb3⟩
  clear HC1
  clear T0a T0b T1a T1b
  replace T0 := Lib.hid (T0.out.keep hb3)
  replace T1 := Lib.hid (T1.out.keep hb3)
  replace I1 := Lib.hid (I1.out.below hb3)
  replace I2 := Lib.hid (I2.out.below hb3)
  replace HB := Lib.hid (HB.out.trans (hb3.mono HB.out.size))
  clear hb3
  have T0a := T0.out.c0
  have T0b := T0.out.c1
  have T1a := T1.out.c0
  have T1b := T1.out.c1
  go_wp2_with fail
  have HC4 := few_is 30 I1.out I2.out I1.out HFE.out
  refine (HC4).mono ?_
  rintro e wc5 ⟨rfl, hb6⟩
  clear HC4
  clear T0a T0b T1a T1b
  replace T0 := Lib.hid (T0.out.keep hb6)
  replace T1 := Lib.hid (T1.out.keep hb6)
  replace I1 := Lib.hid (I1.out.below hb6)
  replace I2 := Lib.hid (I2.out.below hb6)
  replace HB := Lib.hid (HB.out.trans (hb6.mono HB.out.size))
  clear hb6
  have T0a := T0.out.c0
  have T0b := T0.out.c1
  have T1a := T1.out.c0
  have T1b := T1.out.c1
  go_wp2_with fail
  have HC7 := awake_calls wc5
  refine (HC7).mono ?_
  rintro e wc8 ⟨rfl, hb9⟩
  clear HC7
  clear T0a T0b T1a T1b
  replace T0 := Lib.hid (T0.out.keep hb9)
  replace T1 := Lib.hid (T1.out.keep hb9)
  replace I1 := Lib.hid (I1.out.below hb9)
  replace I2 := Lib.hid (I2.out.below hb9)
  replace HB := Lib.hid (HB.out.trans (hb9.mono HB.out.size))
  clear hb9
  go_wp2_with fail
  go_ret
  exact ⟨rfl, HB.out⟩

set_option maxHeartbeats 4000000 in
set_option maxRecDepth 100000 in
theorem zero (v1 v2 : Value) (g1 g2 : Bool) (l1 l2 : List Nat) (w : World) (h1 : Iv w v1 g1 l1) (h2 : Iv w v2 g2 l2) (hf : few3 30 l1.length l2.length l1.length = true) (hz : iz g2 l2 = 0) :
    Calls Try.prog 4 #[v1, v2] w fun e w' => e = .returned (.bool true) ∧ Below w.heap.size w w' := by
  obtain ⟨A1, c1, rfl, _, _, hs1⟩ := h1.open_
  obtain ⟨A2, c2, rfl, _, _, hs2⟩ := h2.open_
  have hbx := boxes2 w (.bool g1) (.slice A1 l1.length c1) (.bool g2) (.slice A2 l2.length c2)
  generalize hW : (w.alloc (.cells #[.bool g1, .slice A1 l1.length c1] 25)).alloc (.cells #[.bool g2, .slice A2 l2.length c2] 25) = W at hbx
  obtain ⟨hbw, ht0, ht1⟩ := hbx
  have T0 := Lib.hid ht0
  have T1 := Lib.hid ht1
  have I1 := Lib.hid (h1.below hbw)
  have I2 := Lib.hid (h2.below hbw)
  have HB := Lib.hid hbw
  have HW := Lib.hid hW
  have HFE := Lib.hid hf
  clear h1 h2 hs1 hs2 hbw ht0 ht1 hW hf
  have HZ : Hid (Int.sign (iz g2 l2) = 0) := Lib.hid (by rw [hz]; rfl)
  clear hz
  have T0a := T0.out.c0
  have T0b := T0.out.c1
  have T1a := T1.out.c0
  have T1b := T1.out.c1
  go_enter Try.func4, Try.ntmps4
  go_wp2_with fail
  rw [HW.out]
  have HC1 := awake_calls W
  refine (HC1).mono ?_
  rintro e wc2 ⟨rfl, hb3⟩
  clear HC1
  clear T0a T0b T1a T1b
  replace T0 := Lib.hid (T0.out.keep hb3)
  replace T1 := Lib.hid (T1.out.keep hb3)
  replace I1 := Lib.hid (I1.out.below hb3)
  replace I2 := Lib.hid (I2.out.below hb3)
  replace HB := Lib.hid (HB.out.trans (hb3.mono HB.out.size))
  clear hb3
  have T0a := T0.out.c0
  have T0b := T0.out.c1
  have T1a := T1.out.c0
  have T1b := T1.out.c1
  go_wp2_with fail
  have HC4 := few_is 30 I1.out I2.out I1.out HFE.out
  refine (HC4).mono ?_
  rintro e wc5 ⟨rfl, hb6⟩
  clear HC4
  clear T0a T0b T1a T1b
  replace T0 := Lib.hid (T0.out.keep hb6)
  replace T1 := Lib.hid (T1.out.keep hb6)
  replace I1 := Lib.hid (I1.out.below hb6)
  replace I2 := Lib.hid (I2.out.below hb6)
  replace HB := Lib.hid (HB.out.trans (hb6.mono HB.out.size))
  clear hb6
  have T0a := T0.out.c0
  have T0b := T0.out.c1
  have T1a := T1.out.c0
  have T1b := T1.out.c1
  go_wp2_with fail
  have HC7 := sign_is (I2.out.rd (Nat.le_refl _)) HZ.out
  refine (HC7).mono ?_
  rintro e wc8 ⟨rfl, hb9⟩
  clear HC7
  clear T0a T0b T1a T1b
  replace T0 := Lib.hid (T0.out.keep hb9)
  replace T1 := Lib.hid (T1.out.keep hb9)
  replace I1 := Lib.hid (I1.out.below hb9)
  replace I2 := Lib.hid (I2.out.below hb9)
  replace HB := Lib.hid (HB.out.trans (hb9.mono HB.out.size))
  clear hb9
  have T0a := T0.out.c0
  have T0b := T0.out.c1
  have T1a := T1.out.c0
  have T1b := T1.out.c1
  go_wp2_with fail
  have HC10 := awake_calls wc8
  refine (HC10).mono ?_
  rintro e wc11 ⟨rfl, hb12⟩
  clear HC10
  clear T0a T0b T1a T1b
  replace T0 := Lib.hid (T0.out.keep hb12)
  replace T1 := Lib.hid (T1.out.keep hb12)
  replace I1 := Lib.hid (I1.out.below hb12)
  replace I2 := Lib.hid (I2.out.below hb12)
  replace HB := Lib.hid (HB.out.trans (hb12.mono HB.out.size))
  clear hb12
  go_wp2_with fail
  go_ret
  exact ⟨rfl, HB.out⟩

set_option maxHeartbeats 8000000 in
set_option maxRecDepth 100000 in
theorem main (v1 v2 : Value) (g1 g2 : Bool) (l1 l2 : List Nat) (w : World) (h1 : Iv w v1 g1 l1) (h2 : Iv w v2 g2 l2) (hf : few3 30 l1.length l2.length l1.length = true) (hz : iz g2 l2 ≠ 0) :
    Calls Try.prog 4 #[v1, v2] w fun e w' => e = .returned (.bool true) ∧ Below w.heap.size w w' := by
  obtain ⟨A1, c1, rfl, _, _, hs1⟩ := h1.open_
  obtain ⟨A2, c2, rfl, _, _, hs2⟩ := h2.open_
  have hbx := boxes2 w (.bool g1) (.slice A1 l1.length c1) (.bool g2) (.slice A2 l2.length c2)
  generalize hW : (w.alloc (.cells #[.bool g1, .slice A1 l1.length c1] 25)).alloc (.cells #[.bool g2, .slice A2 l2.length c2] 25) = W at hbx
  obtain ⟨hbw, ht0, ht1⟩ := hbx
  have T0 := Lib.hid ht0
  have T1 := Lib.hid ht1
  have I1 := Lib.hid (h1.below hbw)
  have I2 := Lib.hid (h2.below hbw)
  have HB := Lib.hid hbw
  have HW := Lib.hid hW
  have HFE := Lib.hid hf
  clear h1 h2 hs1 hs2 hbw ht0 ht1 hW hf
  have hl := few3_true HFE.out
  have S1 := Lib.hid (I1.out.rd hl.1)
  have S2 := Lib.hid (I2.out.rd hl.2.1)
  have Z1 := Lib.hid S1.out.sz
  have Z2 := Lib.hid S2.out.sz
  generalize iz g1 l1 = a at *
  generalize iz g2 l2 = b at *
  obtain ⟨sb, hsb⟩ : ∃ s, Int.sign b = s := ⟨_, rfl⟩
  obtain ⟨sa, hsa⟩ : ∃ s, Int.sign a = s := ⟨_, rfl⟩
  obtain ⟨sr, hsr⟩ : ∃ s, Int.sign (Int.tmod a b) = s := ⟨_, rfl⟩
  obtain ⟨st, hst⟩ : ∃ s, Int.sign (Int.fmod a b) = s := ⟨_, rfl⟩
  have hsb0 : sb ≠ 0 := by
    rw [← hsb]
    exact fun h => hz (Int.sign_eq_zero_iff_zero.1 h)
  have p1 := sign_tmod a b
  have p2 := sign_fmod a hz
  have q1 := wrap_sign' (Int.tmod a b) a
  have q2 := wrap_sign' (Int.fmod a b) b
  have q3 := wrap_sign (Int.tmod a b) a
  have q4 := wrap_sign (Int.fmod a b) b
  rw [hsr, hsa] at p1 q1 q3
  rw [hst, hsb] at p2 q2 q4
  obtain ⟨sp, hsp⟩ : ∃ s, sr * sa = s := ⟨_, rfl⟩
  obtain ⟨sq, hsq⟩ : ∃ s, st * sb = s := ⟨_, rfl⟩
  replace q1 : IntKind.i64.wrap (sr * sa) = sp := q1.trans hsp
  replace q2 : IntKind.i64.wrap (st * sb) = sq := q2.trans hsq
  replace q3 : wrap64 (sr * sa) = sp := q3.trans hsp
  replace q4 : wrap64 (st * sb) = sq := q4.trans hsq
  rw [hsp] at p1
  rw [hsq] at p2
  have p3 : decide (0 ≤ sp) = true := decide_eq_true p1
  have p4 : decide (0 ≤ sq) = true := decide_eq_true p2
  clear hsp hsq
  have HSA := Lib.hid hsa
  have HSB := Lib.hid hsb
  have HSR := Lib.hid hsr
  have HST := Lib.hid hst
  have ZQ : Hid (Sz 30 (Int.tdiv a b)) := Lib.hid Z1.out.tdiv
  have ZR : Hid (Sz 30 (Int.tmod a b)) := Lib.hid Z1.out.tmod
  have ZF : Hid (Sz 31 (Int.fdiv a b)) := Lib.hid (Z1.out.fdiv hz)
  have ZM : Hid (Sz 30 (Int.fmod a b)) := Lib.hid (Z2.out.fmod hz)
  have L1 : Hid (((Int.tmod a b).natAbs : Int) < (b.natAbs : Int)) := Lib.hid (by have := tmod_lt_abs a hz; omega)
  have L2 : Hid (((Int.fmod a b).natAbs : Int) < (b.natAbs : Int)) := Lib.hid (by have := fmod_lt_abs a hz; omega)
  have E1 : Hid (Int.tdiv a b * b + Int.tmod a b = a) := Lib.hid (Int.tdiv_mul_add_tmod a b)
  have E2 : Hid (Int.fdiv a b * b + Int.fmod a b = a) := Lib.hid (Int.fdiv_mul_add_fmod a b)
  have HZ := Lib.hid hz
  clear hl hz hsa hsb hsr hst
  generalize e1 : Int.tdiv a b = q at *
  generalize e2 : Int.tmod a b = r at *
  generalize e3 : Int.fdiv a b = s at *
  generalize e4 : Int.fmod a b = t at *
  have HE1 := Lib.hid e1
  have HE2 := Lib.hid e2
  have HE3 := Lib.hid e3
  have HE4 := Lib.hid e4
  clear e1 e2 e3 e4
  have hsb1 : (sb == 0) = false := by simp [hsb0]
  clear hsb0
  have T0a := T0.out.c0
  have T0b := T0.out.c1
  have T1a := T1.out.c0
  have T1b := T1.out.c1
  go_enter Try.func4, Try.ntmps4
  go_wp2_with fail
  rw [HW.out]
  have HC1 := awake_calls W
  refine (HC1).mono ?_
  rintro e wc2 ⟨rfl, hb3⟩
  clear HC1
  clear T0a T0b T1a T1b
  replace T0 := Lib.hid (T0.out.keep hb3)
  replace T1 := Lib.hid (T1.out.keep hb3)
  replace I1 := Lib.hid (I1.out.below hb3)
  replace I2 := Lib.hid (I2.out.below hb3)
  replace S1 := Lib.hid (S1.out.below hb3)
  replace S2 := Lib.hid (S2.out.below hb3)
  replace HB := Lib.hid (HB.out.trans (hb3.mono HB.out.size))
  clear hb3
  have T0a := T0.out.c0
  have T0b := T0.out.c1
  have T1a := T1.out.c0
  have T1b := T1.out.c1
  go_wp2_with fail
  have HC4 := few_is 30 I1.out I2.out I1.out HFE.out
  refine (HC4).mono ?_
  rintro e wc5 ⟨rfl, hb6⟩
  clear HC4
  clear T0a T0b T1a T1b
  replace T0 := Lib.hid (T0.out.keep hb6)
  replace T1 := Lib.hid (T1.out.keep hb6)
  replace I1 := Lib.hid (I1.out.below hb6)
  replace I2 := Lib.hid (I2.out.below hb6)
  replace S1 := Lib.hid (S1.out.below hb6)
  replace S2 := Lib.hid (S2.out.below hb6)
  replace HB := Lib.hid (HB.out.trans (hb6.mono HB.out.size))
  clear hb6
  have T0a := T0.out.c0
  have T0b := T0.out.c1
  have T1a := T1.out.c0
  have T1b := T1.out.c1
  go_wp2_with fail
  have HC7 := sign_is S2.out HSB.out
  refine (HC7).mono ?_
  rintro e wc8 ⟨rfl, hb9⟩
  clear HC7
  clear T0a T0b T1a T1b
  replace T0 := Lib.hid (T0.out.keep hb9)
  replace T1 := Lib.hid (T1.out.keep hb9)
  replace I1 := Lib.hid (I1.out.below hb9)
  replace I2 := Lib.hid (I2.out.below hb9)
  replace S1 := Lib.hid (S1.out.below hb9)
  replace S2 := Lib.hid (S2.out.below hb9)
  replace HB := Lib.hid (HB.out.trans (hb9.mono HB.out.size))
  clear hb9
  clear I1 I2 HFE
  have T0a := T0.out.c0
  have T0b := T0.out.c1
  have T1a := T1.out.c0
  have T1b := T1.out.c1
  go_wp2_with fail
  clear hsb1
  have HC10 := quo_is S1.out S2.out (by decide) (by decide) HZ.out HE1.out HE2.out
  refine (HC10).mono ?_
  rintro e wc11 ⟨⟨u, u', rfl, hv13, hu14⟩, hb12⟩
  clear HC10
  obtain ⟨AQ, AQn, AQc, rfl, hv13o⟩ := hv13.open_
  obtain ⟨dq, dqh⟩ : ∃ dq, decide (q < 0) = dq := ⟨_, rfl⟩
  rw [dqh] at hv13o ⊢
  clear hv13 dqh
  obtain ⟨AR, ARn, ARc, rfl, hu14o⟩ := hu14.open_
  obtain ⟨dr, drh⟩ : ∃ dr, decide (r < 0) = dr := ⟨_, rfl⟩
  rw [drh] at hu14o ⊢
  clear hu14 drh
  clear T0a T0b T1a T1b
  replace T0 := Lib.hid (T0.out.keep hb12)
  replace T1 := Lib.hid (T1.out.keep hb12)
  replace S1 := Lib.hid (S1.out.below hb12)
  replace S2 := Lib.hid (S2.out.below hb12)
  replace HB := Lib.hid (HB.out.trans (hb12.mono HB.out.size))
  clear hb12
  have Q := Lib.hid (hv13o)
  clear hv13o
  have R := Lib.hid (hu14o)
  clear hu14o
  have T0l := T0.out.lt
  have T0a := T0.out.c0
  have T0b := T0.out.c1
  have T1l := T1.out.lt
  have T1a := T1.out.c0
  have T1b := T1.out.c1
  go_wp2_with fail
  clear T0l T0a T0b T1l T1a T1b
  generalize ha16 : World.alloc (World.alloc (wc11) _) _ = wa15
  have hb17 : Below wc11.heap.size wc11 wa15 := by rw [← ha16]; exact boxed2 _ _ _
  have T2 : Hid (Two wa15 (wc11.heap.size) (.bool dq) (.slice AQ AQn AQc)) := Lib.hid (by rw [← ha16]; exact Two.alloc (Two.made _ _ _) _)
  have T3 : Hid (Two wa15 (wc11.heap.size + 1) (.bool dr) (.slice AR ARn ARc)) := Lib.hid (by rw [← ha16]; exact Two.made2 _ _ _ _)
  clear ha16
  replace T0 := Lib.hid (T0.out.keep hb17)
  replace T1 := Lib.hid (T1.out.keep hb17)
  replace S1 := Lib.hid (S1.out.below hb17)
  replace S2 := Lib.hid (S2.out.below hb17)
  replace Q := Lib.hid (Q.out.below hb17)
  replace R := Lib.hid (R.out.below hb17)
  replace HB := Lib.hid (HB.out.trans (hb17.mono HB.out.size))
  clear hb17
  have HC18 := floor_is S1.out S2.out (by decide) (by decide) HZ.out HE3.out HE4.out
  refine (HC18).mono ?_
  rintro e wc19 ⟨⟨u, u', rfl, hv21, hu22⟩, hb20⟩
  clear HC18
  obtain ⟨AS, ASn, ASc, rfl, hv21o⟩ := hv21.open_
  obtain ⟨ds, dsh⟩ : ∃ ds, decide (s < 0) = ds := ⟨_, rfl⟩
  rw [dsh] at hv21o ⊢
  clear hv21 dsh
  obtain ⟨AM, AMn, AMc, rfl, hu22o⟩ := hu22.open_
  obtain ⟨dm, dmh⟩ : ∃ dm, decide (t < 0) = dm := ⟨_, rfl⟩
  rw [dmh] at hu22o ⊢
  clear hu22 dmh
  replace T0 := Lib.hid (T0.out.keep hb20)
  replace T1 := Lib.hid (T1.out.keep hb20)
  replace T2 := Lib.hid (T2.out.keep hb20)
  replace T3 := Lib.hid (T3.out.keep hb20)
  replace S1 := Lib.hid (S1.out.below hb20)
  replace S2 := Lib.hid (S2.out.below hb20)
  replace Q := Lib.hid (Q.out.below hb20)
  replace R := Lib.hid (R.out.below hb20)
  replace HB := Lib.hid (HB.out.trans (hb20.mono HB.out.size))
  clear hb20
  have S := Lib.hid (hv21o)
  clear hv21o
  have M := Lib.hid (hu22o)
  clear hu22o
  go_wp2_with fail
  generalize ha24 : World.alloc (World.alloc (wc19) _) _ = wa23
  have hb25 : Below wc19.heap.size wc19 wa23 := by rw [← ha24]; exact boxed2 _ _ _
  have T4 : Hid (Two wa23 (wc19.heap.size) (.bool ds) (.slice AS ASn ASc)) := Lib.hid (by rw [← ha24]; exact Two.alloc (Two.made _ _ _) _)
  have T5 : Hid (Two wa23 (wc19.heap.size + 1) (.bool dm) (.slice AM AMn AMc)) := Lib.hid (by rw [← ha24]; exact Two.made2 _ _ _ _)
  clear ha24
  replace T0 := Lib.hid (T0.out.keep hb25)
  replace T1 := Lib.hid (T1.out.keep hb25)
  replace T2 := Lib.hid (T2.out.keep hb25)
  replace T3 := Lib.hid (T3.out.keep hb25)
  replace S1 := Lib.hid (S1.out.below hb25)
  replace S2 := Lib.hid (S2.out.below hb25)
  replace Q := Lib.hid (Q.out.below hb25)
  replace R := Lib.hid (R.out.below hb25)
  replace S := Lib.hid (S.out.below hb25)
  replace M := Lib.hid (M.out.below hb25)
  replace HB := Lib.hid (HB.out.trans (hb25.mono HB.out.size))
  clear hb25
  replace T0 := Lib.hid T0.out.drew
  replace T1 := Lib.hid T1.out.drew
  replace T2 := Lib.hid T2.out.drew
  replace T3 := Lib.hid T3.out.drew
  replace T4 := Lib.hid T4.out.drew
  replace T5 := Lib.hid T5.out.drew
  replace S1 := Lib.hid S1.out.drew
  replace S2 := Lib.hid S2.out.drew
  replace Q := Lib.hid Q.out.drew
  replace R := Lib.hid R.out.drew
  replace S := Lib.hid S.out.drew
  replace M := Lib.hid M.out.drew
  replace HB := Lib.hid (below_drewN HB.out 1)
  have T1a := T1.out.c0
  have T1b := T1.out.c1
  have T3a := T3.out.c0
  have T3b := T3.out.c1
  have T5a := T5.out.c0
  have T5b := T5.out.c1
  go_region_held3 (fun w' => w'.cell? ⟨w.heap.size + 1, 0, none⟩ = some (.bool g2) ∧ w'.cell? ⟨w.heap.size + 1, 1, none⟩ = some (.slice A2 l2.length c2) ∧ w'.cell? ⟨wc11.heap.size + 1, 0, none⟩ = some (.bool dr) ∧ w'.cell? ⟨wc11.heap.size + 1, 1, none⟩ = some (.slice AR ARn ARc) ∧ w'.cell? ⟨wc19.heap.size + 1, 0, none⟩ = some (.bool dm) ∧ w'.cell? ⟨wc19.heap.size + 1, 1, none⟩ = some (.slice AM AMn AMc))
    ((first | (refine ⟨?_, ?_, ?_, ?_, ?_, ?_⟩ <;> (with_reducible assumption))))
    (first
     | (go_at_call 26; with_reducible refine (iabs_rd (R.out.rds ZR.out)).mono ?_; rintro e wx ⟨⟨ux, rfl, hvx⟩, hbx⟩; obtain ⟨AU1, AU1n, AU1c, rfl, hvy⟩ := hvx.open_; obtain ⟨du1, du1h⟩ : ∃ du1, decide (((r.natAbs : Nat) : Int) < 0) = du1 := ⟨_, rfl⟩; rw [du1h] at hvy ⊢; clear hvx du1h
        replace T0 := Lib.hid (T0.out.keep hbx)
        replace T1 := Lib.hid (T1.out.keep hbx)
        replace T2 := Lib.hid (T2.out.keep hbx)
        replace T3 := Lib.hid (T3.out.keep hbx)
        replace T4 := Lib.hid (T4.out.keep hbx)
        replace T5 := Lib.hid (T5.out.keep hbx)
        replace T1a := T1.out.c0
        replace T1b := T1.out.c1
        replace T3a := T3.out.c0
        replace T3b := T3.out.c1
        replace T5a := T5.out.c0
        replace T5b := T5.out.c1
        replace S1 := Lib.hid (S1.out.below hbx)
        replace S2 := Lib.hid (S2.out.below hbx)
        replace Q := Lib.hid (Q.out.below hbx)
        replace R := Lib.hid (R.out.below hbx)
        replace S := Lib.hid (S.out.below hbx)
        replace M := Lib.hid (M.out.below hbx)
        try replace U1 := Lib.hid (U1.out.below hbx)
        try replace U2 := Lib.hid (U2.out.below hbx)
        replace HB := Lib.hid (HB.out.trans (hbx.mono HB.out.size))
        have U1 := Lib.hid hvy
        clear hvy
        clear hbx)
     | (go_at_call 26; with_reducible refine (iabs_rd (M.out.rds ZM.out)).mono ?_; rintro e wx ⟨⟨ux, rfl, hvx⟩, hbx⟩; obtain ⟨AU1, AU1n, AU1c, rfl, hvy⟩ := hvx.open_; obtain ⟨du1, du1h⟩ : ∃ du1, decide (((t.natAbs : Nat) : Int) < 0) = du1 := ⟨_, rfl⟩; rw [du1h] at hvy ⊢; clear hvx du1h
        replace T0 := Lib.hid (T0.out.keep hbx)
        replace T1 := Lib.hid (T1.out.keep hbx)
        replace T2 := Lib.hid (T2.out.keep hbx)
        replace T3 := Lib.hid (T3.out.keep hbx)
        replace T4 := Lib.hid (T4.out.keep hbx)
        replace T5 := Lib.hid (T5.out.keep hbx)
        replace T1a := T1.out.c0
        replace T1b := T1.out.c1
        replace T3a := T3.out.c0
        replace T3b := T3.out.c1
        replace T5a := T5.out.c0
        replace T5b := T5.out.c1
        replace S1 := Lib.hid (S1.out.below hbx)
        replace S2 := Lib.hid (S2.out.below hbx)
        replace Q := Lib.hid (Q.out.below hbx)
        replace R := Lib.hid (R.out.below hbx)
        replace S := Lib.hid (S.out.below hbx)
        replace M := Lib.hid (M.out.below hbx)
        try replace U1 := Lib.hid (U1.out.below hbx)
        try replace U2 := Lib.hid (U2.out.below hbx)
        replace HB := Lib.hid (HB.out.trans (hbx.mono HB.out.size))
        have U1 := Lib.hid hvy
        clear hvy
        clear hbx)
     | (go_at_call 26; with_reducible refine (iabs_rd S2.out).mono ?_; rintro e wx ⟨⟨ux, rfl, hvx⟩, hbx⟩; obtain ⟨AU2, AU2n, AU2c, rfl, hvy⟩ := hvx.open_; obtain ⟨du2, du2h⟩ : ∃ du2, decide (((b.natAbs : Nat) : Int) < 0) = du2 := ⟨_, rfl⟩; rw [du2h] at hvy ⊢; clear hvx du2h
        replace T0 := Lib.hid (T0.out.keep hbx)
        replace T1 := Lib.hid (T1.out.keep hbx)
        replace T2 := Lib.hid (T2.out.keep hbx)
        replace T3 := Lib.hid (T3.out.keep hbx)
        replace T4 := Lib.hid (T4.out.keep hbx)
        replace T5 := Lib.hid (T5.out.keep hbx)
        replace T1a := T1.out.c0
        replace T1b := T1.out.c1
        replace T3a := T3.out.c0
        replace T3b := T3.out.c1
        replace T5a := T5.out.c0
        replace T5b := T5.out.c1
        replace S1 := Lib.hid (S1.out.below hbx)
        replace S2 := Lib.hid (S2.out.below hbx)
        replace Q := Lib.hid (Q.out.below hbx)
        replace R := Lib.hid (R.out.below hbx)
        replace S := Lib.hid (S.out.below hbx)
        replace M := Lib.hid (M.out.below hbx)
        try replace U1 := Lib.hid (U1.out.below hbx)
        try replace U2 := Lib.hid (U2.out.below hbx)
        replace HB := Lib.hid (HB.out.trans (hbx.mono HB.out.size))
        have U2 := Lib.hid hvy
        clear hvy
        clear hbx)
     | (go_at_call 25; with_reducible refine (icmp_less (U1.out.rds ZR.out.abs) (U2.out.rds Z2.out.abs) L1.out).mono ?_; rintro e wx ⟨rfl, hbx⟩
        replace T0 := Lib.hid (T0.out.keep hbx)
        replace T1 := Lib.hid (T1.out.keep hbx)
        replace T2 := Lib.hid (T2.out.keep hbx)
        replace T3 := Lib.hid (T3.out.keep hbx)
        replace T4 := Lib.hid (T4.out.keep hbx)
        replace T5 := Lib.hid (T5.out.keep hbx)
        replace T1a := T1.out.c0
        replace T1b := T1.out.c1
        replace T3a := T3.out.c0
        replace T3b := T3.out.c1
        replace T5a := T5.out.c0
        replace T5b := T5.out.c1
        replace S1 := Lib.hid (S1.out.below hbx)
        replace S2 := Lib.hid (S2.out.below hbx)
        replace Q := Lib.hid (Q.out.below hbx)
        replace R := Lib.hid (R.out.below hbx)
        replace S := Lib.hid (S.out.below hbx)
        replace M := Lib.hid (M.out.below hbx)
        try replace U1 := Lib.hid (U1.out.below hbx)
        try replace U2 := Lib.hid (U2.out.below hbx)
        replace HB := Lib.hid (HB.out.trans (hbx.mono HB.out.size))
        clear hbx)
     | (go_at_call 25; with_reducible refine (icmp_less (U1.out.rds ZM.out.abs) (U2.out.rds Z2.out.abs) L2.out).mono ?_; rintro e wx ⟨rfl, hbx⟩
        replace T0 := Lib.hid (T0.out.keep hbx)
        replace T1 := Lib.hid (T1.out.keep hbx)
        replace T2 := Lib.hid (T2.out.keep hbx)
        replace T3 := Lib.hid (T3.out.keep hbx)
        replace T4 := Lib.hid (T4.out.keep hbx)
        replace T5 := Lib.hid (T5.out.keep hbx)
        replace T1a := T1.out.c0
        replace T1b := T1.out.c1
        replace T3a := T3.out.c0
        replace T3b := T3.out.c1
        replace T5a := T5.out.c0
        replace T5b := T5.out.c1
        replace S1 := Lib.hid (S1.out.below hbx)
        replace S2 := Lib.hid (S2.out.below hbx)
        replace Q := Lib.hid (Q.out.below hbx)
        replace R := Lib.hid (R.out.below hbx)
        replace S := Lib.hid (S.out.below hbx)
        replace M := Lib.hid (M.out.below hbx)
        try replace U1 := Lib.hid (U1.out.below hbx)
        try replace U2 := Lib.hid (U2.out.below hbx)
        replace HB := Lib.hid (HB.out.trans (hbx.mono HB.out.size))
        clear hbx))
  all_goals
    rename_i hH
    clear hH
    clear U1 U2
    go_wp2_with fail
    clear T1a T1b T3a T3b T5a T5b
    replace T0 := Lib.hid T0.out.drew
    replace T1 := Lib.hid T1.out.drew
    replace T2 := Lib.hid T2.out.drew
    replace T3 := Lib.hid T3.out.drew
    replace T4 := Lib.hid T4.out.drew
    replace T5 := Lib.hid T5.out.drew
    replace S1 := Lib.hid S1.out.drew
    replace S2 := Lib.hid S2.out.drew
    replace Q := Lib.hid Q.out.drew
    replace R := Lib.hid R.out.drew
    replace S := Lib.hid S.out.drew
    replace M := Lib.hid M.out.drew
    replace HB := Lib.hid (below_drewN HB.out 1)
    have T2a := T2.out.c0
    have T2b := T2.out.c1
    have T1a := T1.out.c0
    have T1b := T1.out.c1
    have T3a := T3.out.c0
    have T3b := T3.out.c1
    have T0a := T0.out.c0
    have T0b := T0.out.c1
    have T4a := T4.out.c0
    have T4b := T4.out.c1
    have T5a := T5.out.c0
    have T5b := T5.out.c1
    go_region_held3 (fun w' => w'.cell? ⟨wc11.heap.size, 0, none⟩ = some (.bool dq) ∧ w'.cell? ⟨wc11.heap.size, 1, none⟩ = some (.slice AQ AQn AQc) ∧ w'.cell? ⟨w.heap.size + 1, 0, none⟩ = some (.bool g2) ∧ w'.cell? ⟨w.heap.size + 1, 1, none⟩ = some (.slice A2 l2.length c2) ∧ w'.cell? ⟨wc11.heap.size + 1, 0, none⟩ = some (.bool dr) ∧ w'.cell? ⟨wc11.heap.size + 1, 1, none⟩ = some (.slice AR ARn ARc) ∧ w'.cell? ⟨w.heap.size, 0, none⟩ = some (.bool g1) ∧ w'.cell? ⟨w.heap.size, 1, none⟩ = some (.slice A1 l1.length c1) ∧ w'.cell? ⟨wc19.heap.size, 0, none⟩ = some (.bool ds) ∧ w'.cell? ⟨wc19.heap.size, 1, none⟩ = some (.slice AS ASn ASc) ∧ w'.cell? ⟨wc19.heap.size + 1, 0, none⟩ = some (.bool dm) ∧ w'.cell? ⟨wc19.heap.size + 1, 1, none⟩ = some (.slice AM AMn AMc))
      ((first | (refine ⟨?_, ?_, ?_, ?_, ?_, ?_, ?_, ?_, ?_, ?_, ?_, ?_⟩ <;> (with_reducible assumption))))
      (first
       | (go_at_call 29; with_reducible refine (imul_rd (Q.out.rds ZQ.out) S2.out (by decide) (by decide) (Or.inl (by decide))).mono ?_; rintro e wx ⟨⟨ux, rfl, hvx⟩, hbx⟩; obtain ⟨AP, APn, APc, rfl, hvy⟩ := hvx.open_; obtain ⟨dp, dph⟩ : ∃ dp, decide ((q * b) < 0) = dp := ⟨_, rfl⟩; rw [dph] at hvy ⊢; clear hvx dph
          replace T0 := Lib.hid (T0.out.keep hbx)
          replace T1 := Lib.hid (T1.out.keep hbx)
          replace T2 := Lib.hid (T2.out.keep hbx)
          replace T3 := Lib.hid (T3.out.keep hbx)
          replace T4 := Lib.hid (T4.out.keep hbx)
          replace T5 := Lib.hid (T5.out.keep hbx)
          replace T2a := T2.out.c0
          replace T2b := T2.out.c1
          replace T1a := T1.out.c0
          replace T1b := T1.out.c1
          replace T3a := T3.out.c0
          replace T3b := T3.out.c1
          replace T0a := T0.out.c0
          replace T0b := T0.out.c1
          replace T4a := T4.out.c0
          replace T4b := T4.out.c1
          replace T5a := T5.out.c0
          replace T5b := T5.out.c1
          replace S1 := Lib.hid (S1.out.below hbx)
          replace S2 := Lib.hid (S2.out.below hbx)
          replace Q := Lib.hid (Q.out.below hbx)
          replace R := Lib.hid (R.out.below hbx)
          replace S := Lib.hid (S.out.below hbx)
          replace M := Lib.hid (M.out.below hbx)
          try replace P1 := Lib.hid (P1.out.below hbx)
          try replace P2 := Lib.hid (P2.out.below hbx)
          replace HB := Lib.hid (HB.out.trans (hbx.mono HB.out.size))
          have P1 := Lib.hid hvy
          clear hvy
          clear hbx)
       | (go_at_call 29; with_reducible refine (imul_rd (S.out.rds ZF.out) S2.out (by decide) (by decide) (Or.inl (by decide))).mono ?_; rintro e wx ⟨⟨ux, rfl, hvx⟩, hbx⟩; obtain ⟨AP, APn, APc, rfl, hvy⟩ := hvx.open_; obtain ⟨dp, dph⟩ : ∃ dp, decide ((s * b) < 0) = dp := ⟨_, rfl⟩; rw [dph] at hvy ⊢; clear hvx dph
          replace T0 := Lib.hid (T0.out.keep hbx)
          replace T1 := Lib.hid (T1.out.keep hbx)
          replace T2 := Lib.hid (T2.out.keep hbx)
          replace T3 := Lib.hid (T3.out.keep hbx)
          replace T4 := Lib.hid (T4.out.keep hbx)
          replace T5 := Lib.hid (T5.out.keep hbx)
          replace T2a := T2.out.c0
          replace T2b := T2.out.c1
          replace T1a := T1.out.c0
          replace T1b := T1.out.c1
          replace T3a := T3.out.c0
          replace T3b := T3.out.c1
          replace T0a := T0.out.c0
          replace T0b := T0.out.c1
          replace T4a := T4.out.c0
          replace T4b := T4.out.c1
          replace T5a := T5.out.c0
          replace T5b := T5.out.c1
          replace S1 := Lib.hid (S1.out.below hbx)
          replace S2 := Lib.hid (S2.out.below hbx)
          replace Q := Lib.hid (Q.out.below hbx)
          replace R := Lib.hid (R.out.below hbx)
          replace S := Lib.hid (S.out.below hbx)
          replace M := Lib.hid (M.out.below hbx)
          try replace P1 := Lib.hid (P1.out.below hbx)
          try replace P2 := Lib.hid (P2.out.below hbx)
          replace HB := Lib.hid (HB.out.trans (hbx.mono HB.out.size))
          have P1 := Lib.hid hvy
          clear hvy
          clear hbx)
       | (go_at_call 28; with_reducible refine (iadd_rd (P1.out.rds (ZQ.out.mul Z2.out)) (R.out.rds ZR.out) (by decide) (by decide)).mono ?_; rintro e wx ⟨⟨ux, rfl, hvx⟩, hbx⟩; obtain ⟨AR2, AR2n, AR2c, rfl, hvy⟩ := hvx.open_; obtain ⟨dr2, dr2h⟩ : ∃ dr2, decide ((q * b + r) < 0) = dr2 := ⟨_, rfl⟩; rw [dr2h] at hvy ⊢; clear hvx dr2h
          replace T0 := Lib.hid (T0.out.keep hbx)
          replace T1 := Lib.hid (T1.out.keep hbx)
          replace T2 := Lib.hid (T2.out.keep hbx)
          replace T3 := Lib.hid (T3.out.keep hbx)
          replace T4 := Lib.hid (T4.out.keep hbx)
          replace T5 := Lib.hid (T5.out.keep hbx)
          replace T2a := T2.out.c0
          replace T2b := T2.out.c1
          replace T1a := T1.out.c0
          replace T1b := T1.out.c1
          replace T3a := T3.out.c0
          replace T3b := T3.out.c1
          replace T0a := T0.out.c0
          replace T0b := T0.out.c1
          replace T4a := T4.out.c0
          replace T4b := T4.out.c1
          replace T5a := T5.out.c0
          replace T5b := T5.out.c1
          replace S1 := Lib.hid (S1.out.below hbx)
          replace S2 := Lib.hid (S2.out.below hbx)
          replace Q := Lib.hid (Q.out.below hbx)
          replace R := Lib.hid (R.out.below hbx)
          replace S := Lib.hid (S.out.below hbx)
          replace M := Lib.hid (M.out.below hbx)
          try replace P1 := Lib.hid (P1.out.below hbx)
          try replace P2 := Lib.hid (P2.out.below hbx)
          replace HB := Lib.hid (HB.out.trans (hbx.mono HB.out.size))
          have P2 := Lib.hid hvy
          clear hvy
          clear hbx)
       | (go_at_call 28; with_reducible refine (iadd_rd (P1.out.rds (ZF.out.mul Z2.out)) (M.out.rds ZM.out) (by decide) (by decide)).mono ?_; rintro e wx ⟨⟨ux, rfl, hvx⟩, hbx⟩; obtain ⟨AR2, AR2n, AR2c, rfl, hvy⟩ := hvx.open_; obtain ⟨dr2, dr2h⟩ : ∃ dr2, decide ((s * b + t) < 0) = dr2 := ⟨_, rfl⟩; rw [dr2h] at hvy ⊢; clear hvx dr2h
          replace T0 := Lib.hid (T0.out.keep hbx)
          replace T1 := Lib.hid (T1.out.keep hbx)
          replace T2 := Lib.hid (T2.out.keep hbx)
          replace T3 := Lib.hid (T3.out.keep hbx)
          replace T4 := Lib.hid (T4.out.keep hbx)
          replace T5 := Lib.hid (T5.out.keep hbx)
          replace T2a := T2.out.c0
          replace T2b := T2.out.c1
          replace T1a := T1.out.c0
          replace T1b := T1.out.c1
          replace T3a := T3.out.c0
          replace T3b := T3.out.c1
          replace T0a := T0.out.c0
          replace T0b := T0.out.c1
          replace T4a := T4.out.c0
          replace T4b := T4.out.c1
          replace T5a := T5.out.c0
          replace T5b := T5.out.c1
          replace S1 := Lib.hid (S1.out.below hbx)
          replace S2 := Lib.hid (S2.out.below hbx)
          replace Q := Lib.hid (Q.out.below hbx)
          replace R := Lib.hid (R.out.below hbx)
          replace S := Lib.hid (S.out.below hbx)
          replace M := Lib.hid (M.out.below hbx)
          try replace P1 := Lib.hid (P1.out.below hbx)
          try replace P2 := Lib.hid (P2.out.below hbx)
          replace HB := Lib.hid (HB.out.trans (hbx.mono HB.out.size))
          have P2 := Lib.hid hvy
          clear hvy
          clear hbx)
       | (go_at_call 27; with_reducible refine (isame_eq (P2.out.rds (k := 62) (((ZQ.out.mul Z2.out).add (ZR.out.mono (by decide))).mono (by decide))) S1.out E1.out).mono ?_; rintro e wx ⟨rfl, hbx⟩
          replace T0 := Lib.hid (T0.out.keep hbx)
          replace T1 := Lib.hid (T1.out.keep hbx)
          replace T2 := Lib.hid (T2.out.keep hbx)
          replace T3 := Lib.hid (T3.out.keep hbx)
          replace T4 := Lib.hid (T4.out.keep hbx)
          replace T5 := Lib.hid (T5.out.keep hbx)
          replace T2a := T2.out.c0
          replace T2b := T2.out.c1
          replace T1a := T1.out.c0
          replace T1b := T1.out.c1
          replace T3a := T3.out.c0
          replace T3b := T3.out.c1
          replace T0a := T0.out.c0
          replace T0b := T0.out.c1
          replace T4a := T4.out.c0
          replace T4b := T4.out.c1
          replace T5a := T5.out.c0
          replace T5b := T5.out.c1
          replace S1 := Lib.hid (S1.out.below hbx)
          replace S2 := Lib.hid (S2.out.below hbx)
          replace Q := Lib.hid (Q.out.below hbx)
          replace R := Lib.hid (R.out.below hbx)
          replace S := Lib.hid (S.out.below hbx)
          replace M := Lib.hid (M.out.below hbx)
          try replace P1 := Lib.hid (P1.out.below hbx)
          try replace P2 := Lib.hid (P2.out.below hbx)
          replace HB := Lib.hid (HB.out.trans (hbx.mono HB.out.size))
          clear hbx)
       | (go_at_call 27; with_reducible refine (isame_eq (P2.out.rds (k := 62) (((ZF.out.mul Z2.out).add (ZM.out.mono (by decide))).mono (by decide))) S1.out E2.out).mono ?_; rintro e wx ⟨rfl, hbx⟩
          replace T0 := Lib.hid (T0.out.keep hbx)
          replace T1 := Lib.hid (T1.out.keep hbx)
          replace T2 := Lib.hid (T2.out.keep hbx)
          replace T3 := Lib.hid (T3.out.keep hbx)
          replace T4 := Lib.hid (T4.out.keep hbx)
          replace T5 := Lib.hid (T5.out.keep hbx)
          replace T2a := T2.out.c0
          replace T2b := T2.out.c1
          replace T1a := T1.out.c0
          replace T1b := T1.out.c1
          replace T3a := T3.out.c0
          replace T3b := T3.out.c1
          replace T0a := T0.out.c0
          replace T0b := T0.out.c1
          replace T4a := T4.out.c0
          replace T4b := T4.out.c1
          replace T5a := T5.out.c0
          replace T5b := T5.out.c1
          replace S1 := Lib.hid (S1.out.below hbx)
          replace S2 := Lib.hid (S2.out.below hbx)
          replace Q := Lib.hid (Q.out.below hbx)
          replace R := Lib.hid (R.out.below hbx)
          replace S := Lib.hid (S.out.below hbx)
          replace M := Lib.hid (M.out.below hbx)
          try replace P1 := Lib.hid (P1.out.below hbx)
          try replace P2 := Lib.hid (P2.out.below hbx)
          replace HB := Lib.hid (HB.out.trans (hbx.mono HB.out.size))
          clear hbx)
       | (go_at_call 24; with_reducible refine (sign_is (R.out.rds ZR.out) HSR.out).mono ?_; rintro e wx ⟨rfl, hbx⟩
          replace T0 := Lib.hid (T0.out.keep hbx)
          replace T1 := Lib.hid (T1.out.keep hbx)
          replace T2 := Lib.hid (T2.out.keep hbx)
          replace T3 := Lib.hid (T3.out.keep hbx)
          replace T4 := Lib.hid (T4.out.keep hbx)
          replace T5 := Lib.hid (T5.out.keep hbx)
          replace T2a := T2.out.c0
          replace T2b := T2.out.c1
          replace T1a := T1.out.c0
          replace T1b := T1.out.c1
          replace T3a := T3.out.c0
          replace T3b := T3.out.c1
          replace T0a := T0.out.c0
          replace T0b := T0.out.c1
          replace T4a := T4.out.c0
          replace T4b := T4.out.c1
          replace T5a := T5.out.c0
          replace T5b := T5.out.c1
          replace S1 := Lib.hid (S1.out.below hbx)
          replace S2 := Lib.hid (S2.out.below hbx)
          replace Q := Lib.hid (Q.out.below hbx)
          replace R := Lib.hid (R.out.below hbx)
          replace S := Lib.hid (S.out.below hbx)
          replace M := Lib.hid (M.out.below hbx)
          try replace P1 := Lib.hid (P1.out.below hbx)
          try replace P2 := Lib.hid (P2.out.below hbx)
          replace HB := Lib.hid (HB.out.trans (hbx.mono HB.out.size))
          clear hbx)
       | (go_at_call 24; with_reducible refine (sign_is S1.out HSA.out).mono ?_; rintro e wx ⟨rfl, hbx⟩
          replace T0 := Lib.hid (T0.out.keep hbx)
          replace T1 := Lib.hid (T1.out.keep hbx)
          replace T2 := Lib.hid (T2.out.keep hbx)
          replace T3 := Lib.hid (T3.out.keep hbx)
          replace T4 := Lib.hid (T4.out.keep hbx)
          replace T5 := Lib.hid (T5.out.keep hbx)
          replace T2a := T2.out.c0
          replace T2b := T2.out.c1
          replace T1a := T1.out.c0
          replace T1b := T1.out.c1
          replace T3a := T3.out.c0
          replace T3b := T3.out.c1
          replace T0a := T0.out.c0
          replace T0b := T0.out.c1
          replace T4a := T4.out.c0
          replace T4b := T4.out.c1
          replace T5a := T5.out.c0
          replace T5b := T5.out.c1
          replace S1 := Lib.hid (S1.out.below hbx)
          replace S2 := Lib.hid (S2.out.below hbx)
          replace Q := Lib.hid (Q.out.below hbx)
          replace R := Lib.hid (R.out.below hbx)
          replace S := Lib.hid (S.out.below hbx)
          replace M := Lib.hid (M.out.below hbx)
          try replace P1 := Lib.hid (P1.out.below hbx)
          try replace P2 := Lib.hid (P2.out.below hbx)
          replace HB := Lib.hid (HB.out.trans (hbx.mono HB.out.size))
          clear hbx)
       | (go_at_call 24; with_reducible refine (sign_is (M.out.rds ZM.out) HST.out).mono ?_; rintro e wx ⟨rfl, hbx⟩
          replace T0 := Lib.hid (T0.out.keep hbx)
          replace T1 := Lib.hid (T1.out.keep hbx)
          replace T2 := Lib.hid (T2.out.keep hbx)
          replace T3 := Lib.hid (T3.out.keep hbx)
          replace T4 := Lib.hid (T4.out.keep hbx)
          replace T5 := Lib.hid (T5.out.keep hbx)
          replace T2a := T2.out.c0
          replace T2b := T2.out.c1
          replace T1a := T1.out.c0
          replace T1b := T1.out.c1
          replace T3a := T3.out.c0
          replace T3b := T3.out.c1
          replace T0a := T0.out.c0
          replace T0b := T0.out.c1
          replace T4a := T4.out.c0
          replace T4b := T4.out.c1
          replace T5a := T5.out.c0
          replace T5b := T5.out.c1
          replace S1 := Lib.hid (S1.out.below hbx)
          replace S2 := Lib.hid (S2.out.below hbx)
          replace Q := Lib.hid (Q.out.below hbx)
          replace R := Lib.hid (R.out.below hbx)
          replace S := Lib.hid (S.out.below hbx)
          replace M := Lib.hid (M.out.below hbx)
          try replace P1 := Lib.hid (P1.out.below hbx)
          try replace P2 := Lib.hid (P2.out.below hbx)
          replace HB := Lib.hid (HB.out.trans (hbx.mono HB.out.size))
          clear hbx)
       | (go_at_call 24; with_reducible refine (sign_is S2.out HSB.out).mono ?_; rintro e wx ⟨rfl, hbx⟩
          replace T0 := Lib.hid (T0.out.keep hbx)
          replace T1 := Lib.hid (T1.out.keep hbx)
          replace T2 := Lib.hid (T2.out.keep hbx)
          replace T3 := Lib.hid (T3.out.keep hbx)
          replace T4 := Lib.hid (T4.out.keep hbx)
          replace T5 := Lib.hid (T5.out.keep hbx)
          replace T2a := T2.out.c0
          replace T2b := T2.out.c1
          replace T1a := T1.out.c0
          replace T1b := T1.out.c1
          replace T3a := T3.out.c0
          replace T3b := T3.out.c1
          replace T0a := T0.out.c0
          replace T0b := T0.out.c1
          replace T4a := T4.out.c0
          replace T4b := T4.out.c1
          replace T5a := T5.out.c0
          replace T5b := T5.out.c1
          replace S1 := Lib.hid (S1.out.below hbx)
          replace S2 := Lib.hid (S2.out.below hbx)
          replace Q := Lib.hid (Q.out.below hbx)
          replace R := Lib.hid (R.out.below hbx)
          replace S := Lib.hid (S.out.below hbx)
          replace M := Lib.hid (M.out.below hbx)
          try replace P1 := Lib.hid (P1.out.below hbx)
          try replace P2 := Lib.hid (P2.out.below hbx)
          replace HB := Lib.hid (HB.out.trans (hbx.mono HB.out.size))
          clear hbx))
    all_goals
      rename_i hH
      clear hH
      go_wp2_with fail
      go_ret
      exact ⟨rfl, HB.out⟩

theorem walk (v1 : Value) (g1 : Bool) (l1 : List Nat) (v2 : Value) (g2 : Bool) (l2 : List Nat) (w : World) (h1 : Iv w v1 g1 l1) (h2 : Iv w v2 g2 l2) :
    Calls Try.prog 4 #[v1, v2] w fun e w' => e = .returned (.bool true) ∧ Below w.heap.size w w' := by
  cases hf : few3 30 l1.length l2.length l1.length
  · exact few_no v1 v2 g1 g2 l1 l2 w h1 h2 hf
  · by_cases hz : iz g2 l2 = 0
    · exact zero v1 v2 g1 g2 l1 l2 w h1 h2 hf hz
    · exact main v1 v2 g1 g2 l1 l2 w h1 h2 hf hz

end Go.Proofs.Ytgmooidagkbheaa.back
