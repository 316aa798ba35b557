/-
  division.Divides, division.Exact; cylinderlaw03.zero.
-/
import Derived.Test.YtgmooidagkbheaaRo
namespace Go.Proofs.Ytgmooidagkbheaa
open Go.RowKit Go.Proofs.YtgmooidagkbheaaW.PrintWords
set_option linter.unusedVariables false

theorem iszero_is {v : Value} {z : Int} {k : Nat} {w : World} {b : Bool} (h : Rd w v z k) (e : (z == 0) = b) : Calls Try.prog 48 #[v] w fun e w' => e = .returned (.bool b) ∧ Below w.heap.size w w' := by
  subst e
  exact iszero_rd h
theorem quo0_is {v v' : Value} {z z' : Int} {k k' : Nat} {w : World} (h : Rd w v z k) (h' : Rd w v' z' k') (e : z' = 0) :
    Calls Try.prog 13 #[v, v'] w fun e w' => e = .returned (.tuple #[.agg #[.bool false, .slice none 0 0], .agg #[.bool false, .slice none 0 0], .int .i64 2]) ∧ Below w.heap.size w w' := by
  subst e
  exact quo0_rd h h'
set_option maxHeartbeats 1000000 in
set_option maxRecDepth 100000 in
theorem zero_in {v : Value} {z : Int} {w : World} {b : Bool} (h : In w v z) (e : decide (z = 0) = b) : Calls Try.prog 19 #[v] w fun e w' => e = .returned (.bool b) ∧ Below w.heap.size w w' := by
  obtain ⟨A, c, rfl, _, _, hs⟩ := h.iv.open_
  have HBX := Lib.hid (boxed w (.bool (decide (z < 0))) (.slice A (dg z.natAbs).length c))
  have HE := Lib.hid e
  by_cases h0 : z < 0
  · have hd : decide (z < 0) = true := decide_eq_true h0
    have HR : Hid (b = false) := Lib.hid (by rw [← e]; exact decide_eq_false (by omega))
    rw [hd] at HBX ⊢
    clear h hs e h0 hd
    go_enter Try.func19, Try.ntmps19
    go_wp2_with fail
    go_ret
    exact ⟨by rw [HR.out]; rfl, HBX.out⟩
  · have hd : decide (z < 0) = false := decide_eq_false h0
    have hl : Hid ((((dg z.natAbs).length : Int) == 0) = b) := Lib.hid (by
      rw [← e, Bool.eq_iff_iff]
      simp only [beq_iff_eq, decide_eq_true_eq]
      constructor
      · intro h
        have := dg_eq_nil.1 (List.eq_nil_of_length_eq_zero (by omega : (dg z.natAbs).length = 0))
        omega
      · rintro rfl
        rw [show Int.natAbs 0 = 0 from rfl, dg_zero]
        rfl)
    rw [hd] at HBX ⊢
    obtain ⟨n, hn⟩ : ∃ n, (dg z.natAbs).length = n := ⟨_, rfl⟩
    rw [hn] at hl HBX ⊢
    clear h hs e h0 hd hn
    go_enter Try.func19, Try.ntmps19
    go_wp2_with fail
    go_ret
    exact ⟨by rw [← hl.out]; rfl, HBX.out⟩

theorem tmod_dvd (a b : Int) : (Int.tmod b a == 0) = decide (a ∣ b) := by
  rw [Bool.eq_iff_iff]
  simp only [beq_iff_eq, decide_eq_true_eq]
  exact ⟨Int.dvd_of_tmod_eq_zero, Int.tmod_eq_zero_of_dvd⟩

set_option maxHeartbeats 4000000 in
set_option maxRecDepth 100000 in
theorem div_zero {v1 v2 : Value} {z1 z2 : Int} {k1 k2 : Nat} {w : World} {b : Bool} (h1 : Rd w v1 z1 k1) (h2 : Rd w v2 z2 k2) (q1 : k1 ≤ 100000) (q2 : k2 ≤ 100000) (hz : z1 = 0) (e : decide (z1 ∣ z2) = b) :
    Calls Try.prog 17 #[v1, v2] w fun e w' => e = .returned (.bool b) ∧ Below w.heap.size w w' := by
  obtain ⟨g1, A1, n1, c1, rfl, hs1⟩ := h1.open_
  obtain ⟨g2, A2, n2, c2, rfl, hs2⟩ := h2.open_
  have hbx := boxes2 w (.bool g1) (.slice A1 n1 c1) (.bool g2) (.slice A2 n2 c2)
  generalize hW : (w.alloc (.cells #[.bool g1, .slice A1 n1 c1] 25)).alloc (.cells #[.bool g2, .slice A2 n2 c2] 25) = W at hbx
  obtain ⟨hbw, ht0, ht1⟩ := hbx
  have T0 := Lib.hid ht0
  have T1 := Lib.hid ht1
  have S1 := Lib.hid (hs1.below hbw)
  have S2 := Lib.hid (hs2.below hbw)
  have HB := Lib.hid hbw
  have HW := Lib.hid hW
  clear h1 h2 hs1 hs2 hbw ht0 ht1 hW
  have HZ : Hid ((z1 == 0) = true) := Lib.hid (by simp [hz])
  have HE : Hid ((z2 == 0) = b) := Lib.hid (by rw [← e, hz, Bool.eq_iff_iff]; simp [Int.zero_dvd])
  clear hz e q1 q2
  have T0a := T0.out.c0
  have T0b := T0.out.c1
  have T0f := T0.out.fz 0
  have T0g := T0.out.fz 1
  have T1a := T1.out.c0
  have T1b := T1.out.c1
  have T1f := T1.out.fz 0
  have T1g := T1.out.fz 1
  go_enter Try.func17, Try.ntmps17
  go_wp2_with fail
  rw [HW.out]
  have HC1 := iszero_is S1.out HZ.out
  refine (HC1).mono ?_
  rintro e wc2 ⟨rfl, hb3⟩
  clear HC1
  clear T0a T0b T0f T0g T1a T1b T1f T1g
  replace T0 := Lib.hid (T0.out.keep hb3)
  replace T1 := Lib.hid (T1.out.keep hb3)
  replace S1 := Lib.hid (S1.out.below hb3)
  replace S2 := Lib.hid (S2.out.below hb3)
  replace HB := Lib.hid (HB.out.trans (hb3.mono HB.out.size))
  clear hb3
  have T0a := T0.out.c0
  have T0b := T0.out.c1
  have T0f := T0.out.fz 0
  have T0g := T0.out.fz 1
  have T1a := T1.out.c0
  have T1b := T1.out.c1
  have T1f := T1.out.fz 0
  have T1g := T1.out.fz 1
  go_wp2_with fail
  have HC4 := iszero_is S2.out HE.out
  refine (HC4).mono ?_
  rintro e wc5 ⟨rfl, hb6⟩
  clear HC4
  clear T0a T0b T0f T0g T1a T1b T1f T1g
  replace T0 := Lib.hid (T0.out.keep hb6)
  replace T1 := Lib.hid (T1.out.keep hb6)
  replace S1 := Lib.hid (S1.out.below hb6)
  replace S2 := Lib.hid (S2.out.below hb6)
  replace HB := Lib.hid (HB.out.trans (hb6.mono HB.out.size))
  clear hb6
  go_wp2_with fail
  go_ret
  exact ⟨rfl, HB.out⟩

set_option maxHeartbeats 4000000 in
set_option maxRecDepth 100000 in
theorem div_not {v1 v2 : Value} {z1 z2 : Int} {k1 k2 : Nat} {w : World} {b : Bool} (h1 : Rd w v1 z1 k1) (h2 : Rd w v2 z2 k2) (q1 : k1 ≤ 100000) (q2 : k2 ≤ 100000) (hz : z1 ≠ 0) (e : decide (z1 ∣ z2) = b) :
    Calls Try.prog 17 #[v1, v2] w fun e w' => e = .returned (.bool b) ∧ Below w.heap.size w w' := by
  obtain ⟨g1, A1, n1, c1, rfl, hs1⟩ := h1.open_
  obtain ⟨g2, A2, n2, c2, rfl, hs2⟩ := h2.open_
  have hbx := boxes2 w (.bool g1) (.slice A1 n1 c1) (.bool g2) (.slice A2 n2 c2)
  generalize hW : (w.alloc (.cells #[.bool g1, .slice A1 n1 c1] 25)).alloc (.cells #[.bool g2, .slice A2 n2 c2] 25) = W at hbx
  obtain ⟨hbw, ht0, ht1⟩ := hbx
  have T0 := Lib.hid ht0
  have T1 := Lib.hid ht1
  have S1 := Lib.hid (hs1.below hbw)
  have S2 := Lib.hid (hs2.below hbw)
  have HB := Lib.hid hbw
  have HW := Lib.hid hW
  clear h1 h2 hs1 hs2 hbw ht0 ht1 hW
  have HZ : Hid ((z1 == 0) = false) := Lib.hid (by simp [hz])
  have HN := Lib.hid hz
  have HK := Lib.hid (And.intro q1 q2)
  have HE : Hid ((Int.tmod z2 z1 == 0) = b) := Lib.hid (by rw [← e]; exact tmod_dvd z1 z2)
  have ZR : Hid (Sz k2 (Int.tmod z2 z1)) := Lib.hid S2.out.sz.tmod
  generalize e1 : Int.tmod z2 z1 = r at *
  generalize e2 : Int.tdiv z2 z1 = q at *
  have H1 := Lib.hid e1
  have H2 := Lib.hid e2
  clear hz e q1 q2 e1 e2
  have T0a := T0.out.c0
  have T0b := T0.out.c1
  have T0f := T0.out.fz 0
  have T0g := T0.out.fz 1
  have T1a := T1.out.c0
  have T1b := T1.out.c1
  have T1f := T1.out.fz 0
  have T1g := T1.out.fz 1
  go_enter Try.func17, Try.ntmps17
  go_wp2_with fail
  rw [HW.out]
  have HC1 := iszero_is S1.out HZ.out
  refine (HC1).mono ?_
  rintro e wc2 ⟨rfl, hb3⟩
  clear HC1
  clear T0a T0b T0f T0g T1a T1b T1f T1g
  replace T0 := Lib.hid (T0.out.keep hb3)
  replace T1 := Lib.hid (T1.out.keep hb3)
  replace S1 := Lib.hid (S1.out.below hb3)
  replace S2 := Lib.hid (S2.out.below hb3)
  replace HB := Lib.hid (HB.out.trans (hb3.mono HB.out.size))
  clear hb3
  have T0a := T0.out.c0
  have T0b := T0.out.c1
  have T0f := T0.out.fz 0
  have T0g := T0.out.fz 1
  have T1a := T1.out.c0
  have T1b := T1.out.c1
  have T1f := T1.out.fz 0
  have T1g := T1.out.fz 1
  go_wp2_with fail
  have HC4 := quo_is S2.out S1.out HK.out.2 HK.out.1 HN.out H2.out H1.out
  refine (HC4).mono ?_
  rintro e wc5 ⟨⟨u, u', rfl, hv7, hu8⟩, hb6⟩
  clear HC4
  obtain ⟨AQ, AQn, AQc, rfl, hv7o⟩ := hv7.open_
  obtain ⟨dq, dqh⟩ : ∃ dq, decide (q < 0) = dq := ⟨_, rfl⟩
  rw [dqh] at hv7o ⊢
  clear hv7 dqh
  obtain ⟨AR, ARn, ARc, rfl, hu8o⟩ := hu8.open_
  obtain ⟨dr, drh⟩ : ∃ dr, decide (r < 0) = dr := ⟨_, rfl⟩
  rw [drh] at hu8o ⊢
  clear hu8 drh
  clear T0a T0b T0f T0g T1a T1b T1f T1g
  replace T0 := Lib.hid (T0.out.keep hb6)
  replace T1 := Lib.hid (T1.out.keep hb6)
  replace S1 := Lib.hid (S1.out.below hb6)
  replace S2 := Lib.hid (S2.out.below hb6)
  replace HB := Lib.hid (HB.out.trans (hb6.mono HB.out.size))
  clear hb6
  have Q := Lib.hid (hv7o)
  clear hv7o
  have R := Lib.hid (hu8o)
  clear hu8o
  go_wp2_with fail
  generalize ha10 : World.alloc (World.alloc (wc5) _) _ = wa9
  have hb11 : Below wc5.heap.size wc5 wa9 := by rw [← ha10]; exact boxed2 _ _ _
  have T3 : Hid (Two wa9 (wc5.heap.size) (.bool dq) (.slice AQ AQn AQc)) := Lib.hid (by rw [← ha10]; exact Two.alloc (Two.made _ _ _) _)
  have T4 : Hid (Two wa9 (wc5.heap.size + 1) (.bool dr) (.slice AR ARn ARc)) := Lib.hid (by rw [← ha10]; exact Two.made2 _ _ _ _)
  clear ha10
  replace T0 := Lib.hid (T0.out.keep hb11)
  replace T1 := Lib.hid (T1.out.keep hb11)
  replace S1 := Lib.hid (S1.out.below hb11)
  replace S2 := Lib.hid (S2.out.below hb11)
  replace Q := Lib.hid (Q.out.below hb11)
  replace R := Lib.hid (R.out.below hb11)
  replace HB := Lib.hid (HB.out.trans (hb11.mono HB.out.size))
  clear hb11
  have HC12 := iszero_is (R.out.rds ZR.out) HE.out
  refine (HC12).mono ?_
  rintro e wc13 ⟨rfl, hb14⟩
  clear HC12
  replace T0 := Lib.hid (T0.out.keep hb14)
  replace T1 := Lib.hid (T1.out.keep hb14)
  replace T3 := Lib.hid (T3.out.keep hb14)
  replace T4 := Lib.hid (T4.out.keep hb14)
  replace S1 := Lib.hid (S1.out.below hb14)
  replace S2 := Lib.hid (S2.out.below hb14)
  replace Q := Lib.hid (Q.out.below hb14)
  replace R := Lib.hid (R.out.below hb14)
  replace HB := Lib.hid (HB.out.trans (hb14.mono HB.out.size))
  clear hb14
  go_wp2_with fail
  go_ret
  exact ⟨rfl, HB.out⟩

theorem divides_is {v1 v2 : Value} {z1 z2 : Int} {k1 k2 : Nat} {w : World} {b : Bool} (h1 : Rd w v1 z1 k1) (h2 : Rd w v2 z2 k2) (q1 : k1 ≤ 100000) (q2 : k2 ≤ 100000) (e : decide (z1 ∣ z2) = b) :
    Calls Try.prog 17 #[v1, v2] w fun e w' => e = .returned (.bool b) ∧ Below w.heap.size w w' := by
  by_cases hz : z1 = 0
  · exact div_zero h1 h2 q1 q2 hz e
  · exact div_not h1 h2 q1 q2 hz e

set_option maxHeartbeats 4000000 in
set_option maxRecDepth 100000 in
theorem exact_zero {v1 v2 : Value} {z1 z2 : Int} {k1 k2 : Nat} {w : World} (h1 : Rd w v1 z1 k1) (h2 : Rd w v2 z2 k2) (hz : z2 = 0) :
    Calls Try.prog 15 #[v1, v2] w fun e w' => e = .returned (.tuple #[.agg #[.bool false, .slice none 0 0], .int .i64 2]) ∧ Below w.heap.size w w' := by
  obtain ⟨g1, A1, n1, c1, rfl, hs1⟩ := h1.open_
  obtain ⟨g2, A2, n2, c2, rfl, hs2⟩ := h2.open_
  have hbx := boxes3 w (.bool g1) (.slice A1 n1 c1) (.bool g2) (.slice A2 n2 c2)
  generalize hW : ((w.alloc (.cells #[.bool g1, .slice A1 n1 c1] 25)).alloc (.cells #[.bool g2, .slice A2 n2 c2] 25)).alloc (.cells #[.bool false, .slice none 0 0] 25)  = W at hbx
  obtain ⟨hbw, ht0, ht1, ht2⟩ := hbx
  have T0 := Lib.hid ht0
  have T1 := Lib.hid ht1
  have T2 := Lib.hid ht2
  have S1 := Lib.hid (hs1.below hbw)
  have S2 := Lib.hid (hs2.below hbw)
  have HB := Lib.hid hbw
  have HW := Lib.hid hW
  clear h1 h2 hs1 hs2 hbw ht0 ht1 ht2 hW
  have T0a := T0.out.c0
  have T0b := T0.out.c1
  have T0f := T0.out.fz 0
  have T0g := T0.out.fz 1
  have T1a := T1.out.c0
  have T1b := T1.out.c1
  have T1f := T1.out.fz 0
  have T1g := T1.out.fz 1
  have T2a := T2.out.c0
  have T2b := T2.out.c1
  have T2f := T2.out.fz 0
  have T2g := T2.out.fz 1
  go_enter Try.func15, Try.ntmps15
  go_wp2_with fail
  rw [HW.out]
  have HC1 := quo0_is S1.out S2.out hz
  refine (HC1).mono ?_
  rintro e wc2 ⟨rfl, hb3⟩
  clear HC1
  clear T0a T0b T0f T0g T1a T1b T1f T1g T2a T2b T2f T2g
  replace T0 := Lib.hid (T0.out.keep hb3)
  replace T1 := Lib.hid (T1.out.keep hb3)
  replace T2 := Lib.hid (T2.out.keep hb3)
  replace S1 := Lib.hid (S1.out.below hb3)
  replace S2 := Lib.hid (S2.out.below hb3)
  replace HB := Lib.hid (HB.out.trans (hb3.mono HB.out.size))
  clear hb3
  have q2 := T2.out.lt
  have T2l := T2.out.lt
  have T2a := T2.out.c0
  have T2b := T2.out.c1
  have T2f := T2.out.fz 0
  have T2g := T2.out.fz 1
  have tx := (T2.out.alloc (.cells #[.bool false, .slice none 0 0] 25)).alloc (.cells #[.bool false, .slice none 0 0] 25)
  have x1 := tx.c0
  have x2 := tx.c1
  have x3 := tx.fz 0
  have x4 := tx.fz 1
  clear tx
  go_wp2_with fail
  clear x1 x2 x3 x4
  refine with_facts (fun  F => Two F (w.heap.size + 1 + 1) (.bool false) (.slice none 0 0) ∧ Below w.heap.size w F) ?fa ?fk
  case fa => refine ⟨?_, ?_⟩ <;> (repeat (first | with_reducible exact T2.out | with_reducible exact N1.out | with_reducible exact N2.out | with_reducible exact HB.out | with_reducible exact Bs.of N1.out | with_reducible exact Bs.of N2.out | with_reducible exact Bs.of T2.out | with_reducible exact Bs.of T0.out | with_reducible exact Bs.of T1.out | with_reducible refine Two.st ?_ _ _ | (with_reducible refine Two.ot ?_ ?hne _ _; case hne => omega) | (with_reducible refine Two.mk' ?_ _ _; (first | with_reducible rfl | omega | (simp; done))) | with_reducible refine Two.alloc ?_ _ | with_reducible refine Bs.same ?_ _ _ _ _ | (with_reducible refine Bs.ot ?_ ?hne _ _; case hne => omega) | (with_reducible refine Bs.mk' ?_ _ _ _ _; (first | with_reducible rfl | omega | (simp; done))) | with_reducible refine Bs.al ?_ _ | with_reducible refine In.st ?_ ?_ _ _ | with_reducible refine In.al ?_ _ | with_reducible refine Rd.st ?_ ?_ _ _ | with_reducible refine Rd.al ?_ _ | (with_reducible refine Below.st ?_ ?hne _ _; case hne => omega) | with_reducible refine Below.al ?_ _))
  case fk =>
    intro F hF
    obtain ⟨T2p, HBp⟩ := hF
    replace T2 := Lib.hid T2p
    clear T2p
    replace HB := Lib.hid HBp
    clear HBp
    have T2a := T2.out.c0
    have T2b := T2.out.c1
    have T2f := T2.out.fz 0
    have T2g := T2.out.fz 1
    exact bodyPost_ret (v := .tuple #[.agg #[.bool false, .slice none 0 0], .int .i64 2]) (by simp [results, Try.results15, go_sem, T2a, T2b]) rfl ⟨rfl, HB.out⟩

set_option maxHeartbeats 4000000 in
set_option maxRecDepth 100000 in
theorem exact_rest {v1 v2 : Value} {z1 z2 : Int} {k1 k2 : Nat} {w : World} (h1 : Rd w v1 z1 k1) (h2 : Rd w v2 z2 k2) (q1 : k1 ≤ 100000) (q2 : k2 ≤ 100000) (hz : z2 ≠ 0) (hd : ¬ z2 ∣ z1) :
    Calls Try.prog 15 #[v1, v2] w fun e w' => e = .returned (.tuple #[.agg #[.bool false, .slice none 0 0], .int .i64 3]) ∧ Below w.heap.size w w' := by
  obtain ⟨g1, A1, n1, c1, rfl, hs1⟩ := h1.open_
  obtain ⟨g2, A2, n2, c2, rfl, hs2⟩ := h2.open_
  have hbx := boxes3 w (.bool g1) (.slice A1 n1 c1) (.bool g2) (.slice A2 n2 c2)
  generalize hW : ((w.alloc (.cells #[.bool g1, .slice A1 n1 c1] 25)).alloc (.cells #[.bool g2, .slice A2 n2 c2] 25)).alloc (.cells #[.bool false, .slice none 0 0] 25)  = W at hbx
  obtain ⟨hbw, ht0, ht1, ht2⟩ := hbx
  have T0 := Lib.hid ht0
  have T1 := Lib.hid ht1
  have T2 := Lib.hid ht2
  have S1 := Lib.hid (hs1.below hbw)
  have S2 := Lib.hid (hs2.below hbw)
  have HB := Lib.hid hbw
  have HW := Lib.hid hW
  clear h1 h2 hs1 hs2 hbw ht0 ht1 ht2 hW
  have HN := Lib.hid hz
  have HK := Lib.hid (And.intro q1 q2)
  have HE : Hid ((Int.tmod z1 z2 == 0) = false) := Lib.hid (by rw [tmod_dvd]; exact decide_eq_false hd)
  have ZR : Hid (Sz k1 (Int.tmod z1 z2)) := Lib.hid S1.out.sz.tmod
  generalize e1 : Int.tmod z1 z2 = r at *
  generalize e2 : Int.tdiv z1 z2 = q at *
  have H1 := Lib.hid e1
  have H2 := Lib.hid e2
  clear hz q1 q2 e1 e2 hd
  have T0a := T0.out.c0
  have T0b := T0.out.c1
  have T0f := T0.out.fz 0
  have T0g := T0.out.fz 1
  have T1a := T1.out.c0
  have T1b := T1.out.c1
  have T1f := T1.out.fz 0
  have T1g := T1.out.fz 1
  have T2a := T2.out.c0
  have T2b := T2.out.c1
  have T2f := T2.out.fz 0
  have T2g := T2.out.fz 1
  go_enter Try.func15, Try.ntmps15
  go_wp2_with fail
  rw [HW.out]
  have HC1 := quo_is S1.out S2.out HK.out.1 HK.out.2 HN.out H2.out H1.out
  refine (HC1).mono ?_
  rintro e wc2 ⟨⟨u, u', rfl, hv4, hu5⟩, hb3⟩
  clear HC1
  obtain ⟨AQ, AQn, AQc, rfl, hv4o⟩ := hv4.open_
  obtain ⟨dq, dqh⟩ : ∃ dq, decide (q < 0) = dq := ⟨_, rfl⟩
  rw [dqh] at hv4o ⊢
  clear hv4 dqh
  obtain ⟨AR, ARn, ARc, rfl, hu5o⟩ := hu5.open_
  obtain ⟨dr, drh⟩ : ∃ dr, decide (r < 0) = dr := ⟨_, rfl⟩
  rw [drh] at hu5o ⊢
  clear hu5 drh
  clear T0a T0b T0f T0g T1a T1b T1f T1g T2a T2b T2f T2g
  replace T0 := Lib.hid (T0.out.keep hb3)
  replace T1 := Lib.hid (T1.out.keep hb3)
  replace T2 := Lib.hid (T2.out.keep hb3)
  replace S1 := Lib.hid (S1.out.below hb3)
  replace S2 := Lib.hid (S2.out.below hb3)
  replace HB := Lib.hid (HB.out.trans (hb3.mono HB.out.size))
  clear hb3
  have Q := Lib.hid (hv4o)
  clear hv4o
  have R := Lib.hid (hu5o)
  clear hu5o
  have q2 := T2.out.lt
  have T2l := T2.out.lt
  have T2a := T2.out.c0
  have T2b := T2.out.c1
  have T2f := T2.out.fz 0
  have T2g := T2.out.fz 1
  go_wp2_with fail
  clear T2l T2a T2b T2f T2g
  generalize ha7 : World.alloc (World.alloc (wc2) _) _ = wa6
  have hb8 : Below wc2.heap.size wc2 wa6 := by rw [← ha7]; exact boxed2 _ _ _
  have T3 : Hid (Two wa6 (wc2.heap.size) (.bool dq) (.slice AQ AQn AQc)) := Lib.hid (by rw [← ha7]; exact Two.alloc (Two.made _ _ _) _)
  have T4 : Hid (Two wa6 (wc2.heap.size + 1) (.bool dr) (.slice AR ARn ARc)) := Lib.hid (by rw [← ha7]; exact Two.made2 _ _ _ _)
  clear ha7
  replace T0 := Lib.hid (T0.out.keep hb8)
  replace T1 := Lib.hid (T1.out.keep hb8)
  replace T2 := Lib.hid (T2.out.keep hb8)
  replace S1 := Lib.hid (S1.out.below hb8)
  replace S2 := Lib.hid (S2.out.below hb8)
  replace Q := Lib.hid (Q.out.below hb8)
  replace R := Lib.hid (R.out.below hb8)
  replace HB := Lib.hid (HB.out.trans (hb8.mono HB.out.size))
  clear hb8
  have HC9 := iszero_is (R.out.rds ZR.out) HE.out
  refine (HC9).mono ?_
  rintro e wc10 ⟨rfl, hb11⟩
  clear HC9
  replace T0 := Lib.hid (T0.out.keep hb11)
  replace T1 := Lib.hid (T1.out.keep hb11)
  replace T2 := Lib.hid (T2.out.keep hb11)
  replace T3 := Lib.hid (T3.out.keep hb11)
  replace T4 := Lib.hid (T4.out.keep hb11)
  replace S1 := Lib.hid (S1.out.below hb11)
  replace S2 := Lib.hid (S2.out.below hb11)
  replace Q := Lib.hid (Q.out.below hb11)
  replace R := Lib.hid (R.out.below hb11)
  replace HB := Lib.hid (HB.out.trans (hb11.mono HB.out.size))
  clear hb11
  have T2l := T2.out.lt
  have T2a := T2.out.c0
  have T2b := T2.out.c1
  have T2f := T2.out.fz 0
  have T2g := T2.out.fz 1
  have T3l := T3.out.lt
  have T3a := T3.out.c0
  have T3b := T3.out.c1
  have T3f := T3.out.fz 0
  have T3g := T3.out.fz 1
  go_wp2_with fail
  refine with_facts (fun  F => Two F (w.heap.size + 1 + 1) (.bool false) (.slice none 0 0) ∧ Below w.heap.size w F) ?fa ?fk
  case fa => refine ⟨?_, ?_⟩ <;> (repeat (first | with_reducible exact T2.out | with_reducible exact N1.out | with_reducible exact N2.out | with_reducible exact HB.out | with_reducible exact Bs.of N1.out | with_reducible exact Bs.of N2.out | with_reducible exact Bs.of T2.out | with_reducible exact Bs.of T0.out | with_reducible exact Bs.of T1.out | with_reducible exact Bs.of T3.out | with_reducible exact Bs.of T4.out | with_reducible refine Two.st ?_ _ _ | (with_reducible refine Two.ot ?_ ?hne _ _; case hne => omega) | (with_reducible refine Two.mk' ?_ _ _; (first | with_reducible rfl | omega | (simp; done))) | with_reducible refine Two.alloc ?_ _ | with_reducible refine Bs.same ?_ _ _ _ _ | (with_reducible refine Bs.ot ?_ ?hne _ _; case hne => omega) | (with_reducible refine Bs.mk' ?_ _ _ _ _; (first | with_reducible rfl | omega | (simp; done))) | with_reducible refine Bs.al ?_ _ | with_reducible refine In.st ?_ ?_ _ _ | with_reducible refine In.al ?_ _ | with_reducible refine Rd.st ?_ ?_ _ _ | with_reducible refine Rd.al ?_ _ | (with_reducible refine Below.st ?_ ?hne _ _; case hne => omega) | with_reducible refine Below.al ?_ _))
  case fk =>
    intro F hF
    obtain ⟨T2p, HBp⟩ := hF
    replace T2 := Lib.hid T2p
    clear T2p
    replace HB := Lib.hid HBp
    clear HBp
    have T2a := T2.out.c0
    have T2b := T2.out.c1
    have T2f := T2.out.fz 0
    have T2g := T2.out.fz 1
    exact bodyPost_ret (v := .tuple #[.agg #[.bool false, .slice none 0 0], .int .i64 3]) (by simp [results, Try.results15, go_sem, T2a, T2b]) rfl ⟨rfl, HB.out⟩

set_option maxHeartbeats 4000000 in
set_option maxRecDepth 100000 in
theorem exact_ok {v1 v2 : Value} {z1 z2 : Int} {k1 k2 : Nat} {w : World} (h1 : Rd w v1 z1 k1) (h2 : Rd w v2 z2 k2) (q1 : k1 ≤ 100000) (q2 : k2 ≤ 100000) (hz : z2 ≠ 0) (hd : z2 ∣ z1) :
    Calls Try.prog 15 #[v1, v2] w fun e w' => (∃ r, e = .returned (.tuple #[r, .int .i64 0]) ∧ In w' r (Int.tdiv z1 z2)) ∧ Below w.heap.size w w' := by
  obtain ⟨g1, A1, n1, c1, rfl, hs1⟩ := h1.open_
  obtain ⟨g2, A2, n2, c2, rfl, hs2⟩ := h2.open_
  have hbx := boxes3 w (.bool g1) (.slice A1 n1 c1) (.bool g2) (.slice A2 n2 c2)
  generalize hW : ((w.alloc (.cells #[.bool g1, .slice A1 n1 c1] 25)).alloc (.cells #[.bool g2, .slice A2 n2 c2] 25)).alloc (.cells #[.bool false, .slice none 0 0] 25)  = W at hbx
  obtain ⟨hbw, ht0, ht1, ht2⟩ := hbx
  have T0 := Lib.hid ht0
  have T1 := Lib.hid ht1
  have T2 := Lib.hid ht2
  have S1 := Lib.hid (hs1.below hbw)
  have S2 := Lib.hid (hs2.below hbw)
  have HB := Lib.hid hbw
  have HW := Lib.hid hW
  clear h1 h2 hs1 hs2 hbw ht0 ht1 ht2 hW
  have HN := Lib.hid hz
  have HK := Lib.hid (And.intro q1 q2)
  have HE : Hid ((Int.tmod z1 z2 == 0) = true) := Lib.hid (by rw [tmod_dvd]; exact decide_eq_true hd)
  have ZR : Hid (Sz k1 (Int.tmod z1 z2)) := Lib.hid S1.out.sz.tmod
  generalize e1 : Int.tmod z1 z2 = r at *
  generalize e2 : Int.tdiv z1 z2 = q at *
  have H1 := Lib.hid e1
  have H2 := Lib.hid e2
  clear hz q1 q2 e1 e2 hd
  have T0a := T0.out.c0
  have T0b := T0.out.c1
  have T0f := T0.out.fz 0
  have T0g := T0.out.fz 1
  have T1a := T1.out.c0
  have T1b := T1.out.c1
  have T1f := T1.out.fz 0
  have T1g := T1.out.fz 1
  have T2a := T2.out.c0
  have T2b := T2.out.c1
  have T2f := T2.out.fz 0
  have T2g := T2.out.fz 1
  go_enter Try.func15, Try.ntmps15
  go_wp2_with fail
  rw [HW.out]
  have HC1 := quo_is S1.out S2.out HK.out.1 HK.out.2 HN.out H2.out H1.out
  refine (HC1).mono ?_
  rintro e wc2 ⟨⟨u, u', rfl, hv4, hu5⟩, hb3⟩
  clear HC1
  obtain ⟨AQ, AQn, AQc, rfl, hv4o⟩ := hv4.open_
  obtain ⟨dq, dqh⟩ : ∃ dq, decide (q < 0) = dq := ⟨_, rfl⟩
  rw [dqh] at hv4o ⊢
  clear hv4 dqh
  obtain ⟨AR, ARn, ARc, rfl, hu5o⟩ := hu5.open_
  obtain ⟨dr, drh⟩ : ∃ dr, decide (r < 0) = dr := ⟨_, rfl⟩
  rw [drh] at hu5o ⊢
  clear hu5 drh
  clear T0a T0b T0f T0g T1a T1b T1f T1g T2a T2b T2f T2g
  replace T0 := Lib.hid (T0.out.keep hb3)
  replace T1 := Lib.hid (T1.out.keep hb3)
  replace T2 := Lib.hid (T2.out.keep hb3)
  replace S1 := Lib.hid (S1.out.below hb3)
  replace S2 := Lib.hid (S2.out.below hb3)
  replace HB := Lib.hid (HB.out.trans (hb3.mono HB.out.size))
  clear hb3
  have Q := Lib.hid (hv4o)
  clear hv4o
  have R := Lib.hid (hu5o)
  clear hu5o
  have q2 := T2.out.lt
  have T2l := T2.out.lt
  have T2a := T2.out.c0
  have T2b := T2.out.c1
  have T2f := T2.out.fz 0
  have T2g := T2.out.fz 1
  go_wp2_with fail
  clear T2l T2a T2b T2f T2g
  generalize ha7 : World.alloc (World.alloc (wc2) _) _ = wa6
  have hb8 : Below wc2.heap.size wc2 wa6 := by rw [← ha7]; exact boxed2 _ _ _
  have T3 : Hid (Two wa6 (wc2.heap.size) (.bool dq) (.slice AQ AQn AQc)) := Lib.hid (by rw [← ha7]; exact Two.alloc (Two.made _ _ _) _)
  have T4 : Hid (Two wa6 (wc2.heap.size + 1) (.bool dr) (.slice AR ARn ARc)) := Lib.hid (by rw [← ha7]; exact Two.made2 _ _ _ _)
  clear ha7
  replace T0 := Lib.hid (T0.out.keep hb8)
  replace T1 := Lib.hid (T1.out.keep hb8)
  replace T2 := Lib.hid (T2.out.keep hb8)
  replace S1 := Lib.hid (S1.out.below hb8)
  replace S2 := Lib.hid (S2.out.below hb8)
  replace Q := Lib.hid (Q.out.below hb8)
  replace R := Lib.hid (R.out.below hb8)
  replace HB := Lib.hid (HB.out.trans (hb8.mono HB.out.size))
  clear hb8
  have HC9 := iszero_is (R.out.rds ZR.out) HE.out
  refine (HC9).mono ?_
  rintro e wc10 ⟨rfl, hb11⟩
  clear HC9
  replace T0 := Lib.hid (T0.out.keep hb11)
  replace T1 := Lib.hid (T1.out.keep hb11)
  replace T2 := Lib.hid (T2.out.keep hb11)
  replace T3 := Lib.hid (T3.out.keep hb11)
  replace T4 := Lib.hid (T4.out.keep hb11)
  replace S1 := Lib.hid (S1.out.below hb11)
  replace S2 := Lib.hid (S2.out.below hb11)
  replace Q := Lib.hid (Q.out.below hb11)
  replace R := Lib.hid (R.out.below hb11)
  replace HB := Lib.hid (HB.out.trans (hb11.mono HB.out.size))
  clear hb11
  have T2l := T2.out.lt
  have T2a := T2.out.c0
  have T2b := T2.out.c1
  have T2f := T2.out.fz 0
  have T2g := T2.out.fz 1
  have T3l := T3.out.lt
  have T3a := T3.out.c0
  have T3b := T3.out.c1
  have T3f := T3.out.fz 0
  have T3g := T3.out.fz 1
  go_wp2_with fail
  refine with_facts (fun  F => Two F (w.heap.size + 1 + 1) (.bool dq) (.slice AQ AQn AQc) ∧ In F (.agg #[.bool dq, .slice AQ AQn AQc]) q ∧ Below w.heap.size w F) ?fa ?fk
  case fa => refine ⟨?_, ?_, ?_⟩ <;> (repeat (first | with_reducible exact T2.out | with_reducible exact N1.out | with_reducible exact N2.out | with_reducible exact Q.out | with_reducible exact HB.out | with_reducible exact Bs.of N1.out | with_reducible exact Bs.of N2.out | with_reducible exact Bs.of T2.out | with_reducible exact Bs.of T0.out | with_reducible exact Bs.of T1.out | with_reducible exact Bs.of T3.out | with_reducible exact Bs.of T4.out | with_reducible refine Two.st ?_ _ _ | (with_reducible refine Two.ot ?_ ?hne _ _; case hne => omega) | (with_reducible refine Two.mk' ?_ _ _; (first | with_reducible rfl | omega | (simp; done))) | with_reducible refine Two.alloc ?_ _ | with_reducible refine Bs.same ?_ _ _ _ _ | (with_reducible refine Bs.ot ?_ ?hne _ _; case hne => omega) | (with_reducible refine Bs.mk' ?_ _ _ _ _; (first | with_reducible rfl | omega | (simp; done))) | with_reducible refine Bs.al ?_ _ | with_reducible refine In.st ?_ ?_ _ _ | with_reducible refine In.al ?_ _ | with_reducible refine Rd.st ?_ ?_ _ _ | with_reducible refine Rd.al ?_ _ | (with_reducible refine Below.st ?_ ?hne _ _; case hne => omega) | with_reducible refine Below.al ?_ _))
  case fk =>
    intro F hF
    obtain ⟨T2p, Qp, HBp⟩ := hF
    replace T2 := Lib.hid T2p
    clear T2p
    replace Q := Lib.hid Qp
    clear Qp
    replace HB := Lib.hid HBp
    clear HBp
    have T2a := T2.out.c0
    have T2b := T2.out.c1
    have T2f := T2.out.fz 0
    have T2g := T2.out.fz 1
    exact bodyPost_ret (v := .tuple #[.agg #[.bool dq, .slice AQ AQn AQc], .int .i64 0]) (by simp [results, Try.results15, go_sem, T2a, T2b]) rfl ⟨⟨_, rfl, Q.out⟩, HB.out⟩

end Go.Proofs.Ytgmooidagkbheaa
