/-
  division.Symmetric, division.Round.
-/
import Derived.Test.YtgmooidagkbheaaOdd
namespace Go.Proofs.Ytgmooidagkbheaa
open Go.RowKit Go.Proofs.YtgmooidagkbheaaW.PrintWords
set_option linter.unusedVariables false

/-- The remainder nearest to 0. -/
def sy (a m : Int) : Int := if (m.natAbs : Int) < a % m * 2 ^ 1 then a % m - (m.natAbs : Int) else a % m
theorem mod_is {v1 v2 : Value} {z1 z2 r : Int} {k1 k2 : Nat} {w : World} (h1 : Rd w v1 z1 k1) (h2 : Rd w v2 z2 k2) (q1 : k1 ≤ 100000) (q2 : k2 ≤ 100000) (hz : z2 ≠ 0) (e : z1 % z2 = r) :
    Calls Try.prog 16 #[v1, v2] w fun e w' => (∃ r', e = .returned (.tuple #[r', .int .i64 0]) ∧ In w' r' r) ∧ Below w.heap.size w w' := by
  subst e
  exact mod_rd h1 h2 q1 q2 hz
theorem icmp_is {v v' : Value} {z z' c : Int} {k k' : Nat} {w : World} (h : Rd w v z k) (h' : Rd w v' z' k') (e : cmpZ z z' = c) : Calls Try.prog 25 #[v, v'] w fun e w' => e = .returned (.int .i64 c) ∧ Below w.heap.size w w' := by
  have := icmp_rd h h'
  rwa [e] at this
theorem cmpZ_le {a b : Int} (h : ¬ b < a) : cmpZ a b ≤ 0 := by
  unfold cmpZ
  split <;> (try split) <;> omega
theorem cmpZ_one {a b : Int} (h : b < a) : cmpZ a b = 1 := by
  unfold cmpZ
  rw [if_neg (by omega), if_pos h]
theorem ishl1_rd {v : Value} {z : Int} {k : Nat} {w : World} (h : Rd w v z k) (q : k ≤ 1000000) : Calls Try.prog 63 #[v, .int .i64 1] w fun e w' => (∃ v, e = .returned v ∧ In w' v (z * 2 ^ 1)) ∧ Below w.heap.size w w' :=
  ishl_rd 1 h q (by decide)
theorem Sz.emod {k : Nat} {x y : Int} (h : Sz k y) (hy : y ≠ 0) : Sz k (x % y) := h.le (by
  have h1 := Int.emod_nonneg x hy
  have h2 := Int.emod_lt x hy
  omega)
theorem Sz.two {k : Nat} {x : Int} (h : Sz k x) : Sz (k + 1) (x * 2 ^ 1) := by
  have e : x * 2 ^ 1 = x + x := by omega
  rw [e]
  exact h.add h

set_option maxHeartbeats 4000000 in
set_option maxRecDepth 100000 in
theorem symm0_rd {v1 v2 : Value} {z1 z2 : Int} {k1 k2 : Nat} {w : World} (h1 : Rd w v1 z1 k1) (h2 : Rd w v2 z2 k2) (hz : z2 = 0) :
    Calls Try.prog 36 #[v1, v2] w fun e w' => e = .returned (.tuple #[.agg #[.bool false, .slice none 0 0], .int .i64 2]) ∧ Below w.heap.size w w' := by
  obtain ⟨g1, A1, n1, c1, rfl, hs1⟩ := h1.open_
  obtain ⟨g2, A2, n2, c2, rfl, hs2⟩ := h2.open_
  have hbx := boxes3 w (.bool g1) (.slice A1 n1 c1) (.bool g2) (.slice A2 n2 c2)
  generalize hW : ((w.alloc (.cells #[.bool g1, .slice A1 n1 c1] 25)).alloc (.cells #[.bool g2, .slice A2 n2 c2] 25)).alloc (.cells #[.bool false, .slice none 0 0] 25)  = W at hbx
  obtain ⟨hbw, ht0, ht1, ht2⟩ := hbx
  have T0 := Lib.hid ht0
  have T1 := Lib.hid ht1
  have T2 := Lib.hid ht2
  have S1 := Lib.hid (hs1.below hbw)
  have S2 := Lib.hid (hs2.below hbw)
  have HB := Lib.hid hbw
  have HW := Lib.hid hW
  clear h1 h2 hs1 hs2 hbw ht0 ht1 ht2 hW
  have T0a := T0.out.c0
  have T0b := T0.out.c1
  have T0f := T0.out.fz 0
  have T0g := T0.out.fz 1
  have T1a := T1.out.c0
  have T1b := T1.out.c1
  have T1f := T1.out.fz 0
  have T1g := T1.out.fz 1
  have T2a := T2.out.c0
  have T2b := T2.out.c1
  have T2f := T2.out.fz 0
  have T2g := T2.out.fz 1
  go_enter Try.func36, Try.ntmps36
  go_wp2_with fail
  rw [HW.out]
  have HC1 := mod0_rd S1.out S2.out hz
  refine (HC1).mono ?_
  rintro e wc2 ⟨rfl, hb3⟩
  clear HC1
  clear T0a T0b T0f T0g T1a T1b T1f T1g T2a T2b T2f T2g
  replace T0 := Lib.hid (T0.out.keep hb3)
  replace T1 := Lib.hid (T1.out.keep hb3)
  replace T2 := Lib.hid (T2.out.keep hb3)
  replace S1 := Lib.hid (S1.out.below hb3)
  replace S2 := Lib.hid (S2.out.below hb3)
  replace HB := Lib.hid (HB.out.trans (hb3.mono HB.out.size))
  clear hb3
  have L2 := Lib.hid T2.out.lt
  have T2l := T2.out.lt
  have T2a := T2.out.c0
  have T2b := T2.out.c1
  have T2f := T2.out.fz 0
  have T2g := T2.out.fz 1
  go_wp2_with fail
  refine with_facts (fun  F => Two F (w.heap.size + 1 + 1) (.bool false) (.slice none 0 0) ∧ Below w.heap.size w F) ?fa ?fk
  case fa => refine ⟨?_, ?_⟩ <;> (repeat (first | with_reducible exact T2.out | with_reducible exact N1.out | with_reducible exact N2.out | with_reducible exact HB.out | with_reducible exact Bs.of N1.out | with_reducible exact Bs.of N2.out | with_reducible exact Bs.of T2.out | with_reducible exact Bs.of T0.out | with_reducible exact Bs.of T1.out | with_reducible refine Two.st ?_ _ _ | (with_reducible refine Two.ot ?_ ?hne _ _; case hne => omega) | (with_reducible refine Two.mk' ?_ _ _; (first | with_reducible rfl | omega | (simp; done))) | with_reducible refine Two.alloc ?_ _ | with_reducible refine Bs.same ?_ _ _ _ _ | (with_reducible refine Bs.ot ?_ ?hne _ _; case hne => omega) | (with_reducible refine Bs.mk' ?_ _ _ _ _; (first | with_reducible rfl | omega | (simp; done))) | with_reducible refine Bs.al ?_ _ | with_reducible refine In.st ?_ ?_ _ _ | with_reducible refine In.al ?_ _ | with_reducible refine Rd.st ?_ ?_ _ _ | with_reducible refine Rd.al ?_ _ | (with_reducible refine Below.st ?_ ?hne _ _; case hne => omega) | with_reducible refine Below.al ?_ _))
  case fk =>
    intro F hF
    obtain ⟨T2p, HBp⟩ := hF
    replace T2 := Lib.hid T2p
    clear T2p
    replace HB := Lib.hid HBp
    clear HBp
    have T2a := T2.out.c0
    have T2b := T2.out.c1
    have T2f := T2.out.fz 0
    have T2g := T2.out.fz 1
    exact bodyPost_ret (v := .tuple #[.agg #[.bool false, .slice none 0 0], .int .i64 2]) (by simp [results, Try.results36, go_sem, T2a, T2b]) rfl ⟨rfl, HB.out⟩

set_option maxHeartbeats 4000000 in
set_option maxRecDepth 100000 in
theorem symm_big {v1 v2 : Value} {z1 z2 : Int} {k1 k2 : Nat} {w : World} (h1 : Rd w v1 z1 k1) (h2 : Rd w v2 z2 k2) (q1 : k1 ≤ 100000) (q2 : k2 ≤ 100000) (hz : z2 ≠ 0) (hs : (z2.natAbs : Int) < z1 % z2 * 2 ^ 1) :
    Calls Try.prog 36 #[v1, v2] w fun e w' => (∃ r, e = .returned (.tuple #[r, .int .i64 0]) ∧ In w' r (sy z1 z2)) ∧ Below w.heap.size w w' := by
  obtain ⟨g1, A1, n1, c1, rfl, hs1⟩ := h1.open_
  obtain ⟨g2, A2, n2, c2, rfl, hs2⟩ := h2.open_
  have hbx := boxes3 w (.bool g1) (.slice A1 n1 c1) (.bool g2) (.slice A2 n2 c2)
  generalize hW : ((w.alloc (.cells #[.bool g1, .slice A1 n1 c1] 25)).alloc (.cells #[.bool g2, .slice A2 n2 c2] 25)).alloc (.cells #[.bool false, .slice none 0 0] 25)  = W at hbx
  obtain ⟨hbw, ht0, ht1, ht2⟩ := hbx
  have T0 := Lib.hid ht0
  have T1 := Lib.hid ht1
  have T2 := Lib.hid ht2
  have S1 := Lib.hid (hs1.below hbw)
  have S2 := Lib.hid (hs2.below hbw)
  have HB := Lib.hid hbw
  have HW := Lib.hid hW
  clear h1 h2 hs1 hs2 hbw ht0 ht1 ht2 hW
  have Z2 := Lib.hid S2.out.sz
  have HZ := Lib.hid hz
  have HK := Lib.hid (And.intro q1 q2)
  have ZR : Hid (Sz k2 (z1 % z2)) := Lib.hid (Z2.out.emod hz)
  have HC : Hid (cmpZ (z1 % z2 * 2 ^ 1) (z2.natAbs : Int) = 1) := Lib.hid (cmpZ_one hs)
  have HY : Hid (z1 % z2 - (z2.natAbs : Int) = sy z1 z2) := Lib.hid (by unfold sy; rw [if_pos hs])
  clear hs hz q1 q2
  generalize sy z1 z2 = y at *
  obtain ⟨r, hr⟩ : ∃ r, z1 % z2 = r := ⟨_, rfl⟩
  rw [hr] at HC HY ZR
  have HR := Lib.hid hr
  clear hr
  have T0a := T0.out.c0
  have T0b := T0.out.c1
  have T0f := T0.out.fz 0
  have T0g := T0.out.fz 1
  have T1a := T1.out.c0
  have T1b := T1.out.c1
  have T1f := T1.out.fz 0
  have T1g := T1.out.fz 1
  have T2a := T2.out.c0
  have T2b := T2.out.c1
  have T2f := T2.out.fz 0
  have T2g := T2.out.fz 1
  go_enter Try.func36, Try.ntmps36
  go_wp2_with fail
  rw [HW.out]
  have HC1 := mod_is S1.out S2.out HK.out.1 HK.out.2 HZ.out HR.out
  refine (HC1).mono ?_
  rintro e wc2 ⟨⟨u, rfl, hv4⟩, hb3⟩
  clear HC1
  obtain ⟨AR, ARn, ARc, rfl, hv4o⟩ := hv4.open_
  obtain ⟨dr, drh⟩ : ∃ dr, decide (r < 0) = dr := ⟨_, rfl⟩
  rw [drh] at hv4o ⊢
  clear hv4 drh
  clear T0a T0b T0f T0g T1a T1b T1f T1g T2a T2b T2f T2g
  replace T0 := Lib.hid (T0.out.keep hb3)
  replace T1 := Lib.hid (T1.out.keep hb3)
  replace T2 := Lib.hid (T2.out.keep hb3)
  replace S1 := Lib.hid (S1.out.below hb3)
  replace S2 := Lib.hid (S2.out.below hb3)
  replace HB := Lib.hid (HB.out.trans (hb3.mono HB.out.size))
  clear hb3
  have R := Lib.hid (hv4o)
  clear hv4o
  have L2 := Lib.hid T2.out.lt
  have T1l := T1.out.lt
  have T1a := T1.out.c0
  have T1b := T1.out.c1
  have T1f := T1.out.fz 0
  have T1g := T1.out.fz 1
  go_wp2_with fail
  clear T1l T1a T1b T1f T1g
  generalize ha6 : World.alloc (wc2) _ = wa5
  have hb7 : Below wc2.heap.size wc2 wa5 := by rw [← ha6]; exact (Below.refl _ _).alloc (Nat.le_refl _) _
  have T3 : Hid (Two wa5 (wc2.heap.size) (.bool dr) (.slice AR ARn ARc)) := Lib.hid (by rw [← ha6]; exact Two.made _ _ _)
  clear ha6
  replace T0 := Lib.hid (T0.out.keep hb7)
  replace T1 := Lib.hid (T1.out.keep hb7)
  replace T2 := Lib.hid (T2.out.keep hb7)
  replace S1 := Lib.hid (S1.out.below hb7)
  replace S2 := Lib.hid (S2.out.below hb7)
  replace R := Lib.hid (R.out.below hb7)
  replace HB := Lib.hid (HB.out.trans (hb7.mono HB.out.size))
  clear hb7
  have HC8 := iabs_rd S2.out
  refine (HC8).mono ?_
  rintro e wc9 ⟨⟨u, rfl, hv11⟩, hb10⟩
  clear HC8
  obtain ⟨AU, AUn, AUc, rfl, hv11o⟩ := hv11.open_
  obtain ⟨du, duh⟩ : ∃ du, decide (((z2.natAbs : Nat) : Int) < 0) = du := ⟨_, rfl⟩
  rw [duh] at hv11o ⊢
  clear hv11 duh
  replace T0 := Lib.hid (T0.out.keep hb10)
  replace T1 := Lib.hid (T1.out.keep hb10)
  replace T2 := Lib.hid (T2.out.keep hb10)
  replace T3 := Lib.hid (T3.out.keep hb10)
  replace S1 := Lib.hid (S1.out.below hb10)
  replace S2 := Lib.hid (S2.out.below hb10)
  replace R := Lib.hid (R.out.below hb10)
  replace HB := Lib.hid (HB.out.trans (hb10.mono HB.out.size))
  clear hb10
  have U := Lib.hid (hv11o)
  clear hv11o
  have L3 := Lib.hid T3.out.lt
  go_wp2_with fail
  generalize ha13 : World.alloc (wc9) _ = wa12
  have hb14 : Below wc9.heap.size wc9 wa12 := by rw [← ha13]; exact (Below.refl _ _).alloc (Nat.le_refl _) _
  have T4 : Hid (Two wa12 (wc9.heap.size) (.bool du) (.slice AU AUn AUc)) := Lib.hid (by rw [← ha13]; exact Two.made _ _ _)
  clear ha13
  replace T0 := Lib.hid (T0.out.keep hb14)
  replace T1 := Lib.hid (T1.out.keep hb14)
  replace T2 := Lib.hid (T2.out.keep hb14)
  replace T3 := Lib.hid (T3.out.keep hb14)
  replace S1 := Lib.hid (S1.out.below hb14)
  replace S2 := Lib.hid (S2.out.below hb14)
  replace R := Lib.hid (R.out.below hb14)
  replace U := Lib.hid (U.out.below hb14)
  replace HB := Lib.hid (HB.out.trans (hb14.mono HB.out.size))
  clear hb14
  replace T0 := Lib.hid T0.out.drew
  replace T1 := Lib.hid T1.out.drew
  replace T2 := Lib.hid T2.out.drew
  replace T3 := Lib.hid T3.out.drew
  replace T4 := Lib.hid T4.out.drew
  replace S1 := Lib.hid S1.out.drew
  replace S2 := Lib.hid S2.out.drew
  replace R := Lib.hid R.out.drew
  replace U := Lib.hid U.out.drew
  replace HB := Lib.hid (below_drewN HB.out 1)
  have T3a := T3.out.c0
  have T3b := T3.out.c1
  have T4a := T4.out.c0
  have T4b := T4.out.c1
  go_region_held3 (fun w' => w'.cell? ⟨wc2.heap.size, 0, none⟩ = some (.bool dr) ∧ w'.cell? ⟨wc2.heap.size, 1, none⟩ = some (.slice AR ARn ARc) ∧ w'.cell? ⟨wc9.heap.size, 0, none⟩ = some (.bool du) ∧ w'.cell? ⟨wc9.heap.size, 1, none⟩ = some (.slice AU AUn AUc))
    ((first | (refine ⟨?_, ?_, ?_, ?_⟩ <;> (with_reducible assumption))))
    (first
     | (go_at_call 63; with_reducible refine (ishl1_rd (R.out.rds ZR.out) (Nat.le_trans HK.out.2 (by decide))).mono ?_; rintro e wx ⟨⟨ux, rfl, hvx⟩, hbx⟩; obtain ⟨AD, ADn, ADc, rfl, hvy⟩ := hvx.open_; obtain ⟨dd, ddh⟩ : ∃ dd, decide ((r * 2 ^ 1) < 0) = dd := ⟨_, rfl⟩; rw [ddh] at hvy ⊢; clear hvx ddh
        replace T0 := Lib.hid (T0.out.keep hbx)
        replace T1 := Lib.hid (T1.out.keep hbx)
        replace T2 := Lib.hid (T2.out.keep hbx)
        replace T3 := Lib.hid (T3.out.keep hbx)
        replace T4 := Lib.hid (T4.out.keep hbx)
        replace T3a := T3.out.c0
        replace T3b := T3.out.c1
        replace T4a := T4.out.c0
        replace T4b := T4.out.c1
        replace S1 := Lib.hid (S1.out.below hbx)
        replace S2 := Lib.hid (S2.out.below hbx)
        replace R := Lib.hid (R.out.below hbx)
        replace U := Lib.hid (U.out.below hbx)
        try replace D := Lib.hid (D.out.below hbx)
        replace HB := Lib.hid (HB.out.trans (hbx.mono HB.out.size))
        have D := Lib.hid hvy
        clear hvy
        clear hbx)
     | (go_at_call 25; with_reducible refine (icmp_is (D.out.rds ZR.out.two) (U.out.rds Z2.out.abs) HC.out).mono ?_; rintro e wx ⟨rfl, hbx⟩
        replace T0 := Lib.hid (T0.out.keep hbx)
        replace T1 := Lib.hid (T1.out.keep hbx)
        replace T2 := Lib.hid (T2.out.keep hbx)
        replace T3 := Lib.hid (T3.out.keep hbx)
        replace T4 := Lib.hid (T4.out.keep hbx)
        replace T3a := T3.out.c0
        replace T3b := T3.out.c1
        replace T4a := T4.out.c0
        replace T4b := T4.out.c1
        replace S1 := Lib.hid (S1.out.below hbx)
        replace S2 := Lib.hid (S2.out.below hbx)
        replace R := Lib.hid (R.out.below hbx)
        replace U := Lib.hid (U.out.below hbx)
        try replace D := Lib.hid (D.out.below hbx)
        replace HB := Lib.hid (HB.out.trans (hbx.mono HB.out.size))
        clear hbx))
  all_goals
    rename_i hH
    clear hH
    clear D
    go_wp2_with fail
    have HC15 := isub_rd (R.out.rds ZR.out) (U.out.rds Z2.out.abs) (Nat.le_trans HK.out.2 (by decide)) (Nat.le_trans HK.out.2 (by decide))
    refine (HC15).mono ?_
    rintro e wc16 ⟨⟨u, rfl, hv18⟩, hb17⟩
    clear HC15
    obtain ⟨AY, AYn, AYc, rfl, hv18o⟩ := hv18.open_
    obtain ⟨dy, dyh⟩ : ∃ dy, decide ((r - ((z2.natAbs : Nat) : Int)) < 0) = dy := ⟨_, rfl⟩
    rw [dyh] at hv18o ⊢
    clear hv18 dyh
    clear T3a T3b T4a T4b
    replace T0 := Lib.hid (T0.out.keep hb17)
    replace T1 := Lib.hid (T1.out.keep hb17)
    replace T2 := Lib.hid (T2.out.keep hb17)
    replace T3 := Lib.hid (T3.out.keep hb17)
    replace T4 := Lib.hid (T4.out.keep hb17)
    replace S1 := Lib.hid (S1.out.below hb17)
    replace S2 := Lib.hid (S2.out.below hb17)
    replace R := Lib.hid (R.out.below hb17)
    replace U := Lib.hid (U.out.below hb17)
    replace HB := Lib.hid (HB.out.trans (hb17.mono HB.out.size))
    clear hb17
    have Y := Lib.hid (hv18o)
    clear hv18o
    rw [HY.out] at Y
    have q2 := L2.out
    have q3 := L3.out
    have T2l := T2.out.lt
    have T2a := T2.out.c0
    have T2b := T2.out.c1
    have T2f := T2.out.fz 0
    have T2g := T2.out.fz 1
    have T3l := T3.out.lt
    have T3a := T3.out.c0
    have T3b := T3.out.c1
    have T3f := T3.out.fz 0
    have T3g := T3.out.fz 1
    have T4l := T4.out.lt
    have T4a := T4.out.c0
    have T4b := T4.out.c1
    have T4f := T4.out.fz 0
    have T4g := T4.out.fz 1
    go_wp2_with fail
    refine with_facts (fun  F => Two F (w.heap.size + 1 + 1) (.bool dy) (.slice AY AYn AYc) ∧ In F (.agg #[.bool dy, .slice AY AYn AYc]) y ∧ Below w.heap.size w F) ?fa ?fk
    case fa => refine ⟨?_, ?_, ?_⟩ <;> (repeat (first | with_reducible exact T2.out | with_reducible exact N1.out | with_reducible exact N2.out | with_reducible exact Y.out | with_reducible exact HB.out | with_reducible exact Bs.of N1.out | with_reducible exact Bs.of N2.out | with_reducible exact Bs.of T2.out | with_reducible exact Bs.of T0.out | with_reducible exact Bs.of T1.out | with_reducible exact Bs.of T3.out | with_reducible exact Bs.of T4.out | with_reducible refine Two.st ?_ _ _ | (with_reducible refine Two.ot ?_ ?hne _ _; case hne => omega) | (with_reducible refine Two.mk' ?_ _ _; (first | with_reducible rfl | omega | (simp; done))) | with_reducible refine Two.alloc ?_ _ | with_reducible refine Bs.same ?_ _ _ _ _ | (with_reducible refine Bs.ot ?_ ?hne _ _; case hne => omega) | (with_reducible refine Bs.mk' ?_ _ _ _ _; (first | with_reducible rfl | omega | (simp; done))) | with_reducible refine Bs.al ?_ _ | with_reducible refine In.st ?_ ?_ _ _ | with_reducible refine In.al ?_ _ | with_reducible refine Rd.st ?_ ?_ _ _ | with_reducible refine Rd.al ?_ _ | (with_reducible refine Below.st ?_ ?hne _ _; case hne => omega) | with_reducible refine Below.al ?_ _))
    case fk =>
      intro F hF
      obtain ⟨T2p, Yp, HBp⟩ := hF
      replace T2 := Lib.hid T2p
      clear T2p
      replace Y := Lib.hid Yp
      clear Yp
      replace HB := Lib.hid HBp
      clear HBp
      have T2a := T2.out.c0
      have T2b := T2.out.c1
      have T2f := T2.out.fz 0
      have T2g := T2.out.fz 1
      exact bodyPost_ret (v := .tuple #[.agg #[.bool dy, .slice AY AYn AYc], .int .i64 0]) (by simp [results, Try.results36, go_sem, T2a, T2b]) rfl ⟨⟨_, rfl, Y.out⟩, HB.out⟩

set_option maxHeartbeats 4000000 in
set_option maxRecDepth 100000 in
theorem symm_small {v1 v2 : Value} {z1 z2 : Int} {k1 k2 : Nat} {w : World} (h1 : Rd w v1 z1 k1) (h2 : Rd w v2 z2 k2) (q1 : k1 ≤ 100000) (q2 : k2 ≤ 100000) (hz : z2 ≠ 0) (hs : ¬ (z2.natAbs : Int) < z1 % z2 * 2 ^ 1) :
    Calls Try.prog 36 #[v1, v2] w fun e w' => (∃ r, e = .returned (.tuple #[r, .int .i64 0]) ∧ In w' r (sy z1 z2)) ∧ Below w.heap.size w w' := by
  obtain ⟨g1, A1, n1, c1, rfl, hs1⟩ := h1.open_
  obtain ⟨g2, A2, n2, c2, rfl, hs2⟩ := h2.open_
  have hbx := boxes3 w (.bool g1) (.slice A1 n1 c1) (.bool g2) (.slice A2 n2 c2)
  generalize hW : ((w.alloc (.cells #[.bool g1, .slice A1 n1 c1] 25)).alloc (.cells #[.bool g2, .slice A2 n2 c2] 25)).alloc (.cells #[.bool false, .slice none 0 0] 25)  = W at hbx
  obtain ⟨hbw, ht0, ht1, ht2⟩ := hbx
  have T0 := Lib.hid ht0
  have T1 := Lib.hid ht1
  have T2 := Lib.hid ht2
  have S1 := Lib.hid (hs1.below hbw)
  have S2 := Lib.hid (hs2.below hbw)
  have HB := Lib.hid hbw
  have HW := Lib.hid hW
  clear h1 h2 hs1 hs2 hbw ht0 ht1 ht2 hW
  have Z2 := Lib.hid S2.out.sz
  have HZ := Lib.hid hz
  have HK := Lib.hid (And.intro q1 q2)
  have ZR : Hid (Sz k2 (z1 % z2)) := Lib.hid (Z2.out.emod hz)
  have hle := cmpZ_le hs
  have HY : Hid (z1 % z2 = sy z1 z2) := Lib.hid (by unfold sy; rw [if_neg hs])
  obtain ⟨c, hc⟩ : ∃ c, cmpZ (z1 % z2 * 2 ^ 1) (z2.natAbs : Int) = c := ⟨_, rfl⟩
  rw [hc] at hle
  have HC := Lib.hid hc
  have hd0 : decide (0 < c) = false := decide_eq_false (by omega)
  have hd1 : ¬ (0 < c) := by omega
  clear hc
  clear hs hz q1 q2
  generalize sy z1 z2 = y at *
  obtain ⟨r, hr⟩ : ∃ r, z1 % z2 = r := ⟨_, rfl⟩
  rw [hr] at HC HY ZR
  have HR := Lib.hid hr
  clear hr
  have T0a := T0.out.c0
  have T0b := T0.out.c1
  have T0f := T0.out.fz 0
  have T0g := T0.out.fz 1
  have T1a := T1.out.c0
  have T1b := T1.out.c1
  have T1f := T1.out.fz 0
  have T1g := T1.out.fz 1
  have T2a := T2.out.c0
  have T2b := T2.out.c1
  have T2f := T2.out.fz 0
  have T2g := T2.out.fz 1
  go_enter Try.func36, Try.ntmps36
  go_wp2_with fail
  rw [HW.out]
  have HC1 := mod_is S1.out S2.out HK.out.1 HK.out.2 HZ.out HR.out
  refine (HC1).mono ?_
  rintro e wc2 ⟨⟨u, rfl, hv4⟩, hb3⟩
  clear HC1
  obtain ⟨AR, ARn, ARc, rfl, hv4o⟩ := hv4.open_
  obtain ⟨dr, drh⟩ : ∃ dr, decide (r < 0) = dr := ⟨_, rfl⟩
  rw [drh] at hv4o ⊢
  clear hv4 drh
  clear T0a T0b T0f T0g T1a T1b T1f T1g T2a T2b T2f T2g
  replace T0 := Lib.hid (T0.out.keep hb3)
  replace T1 := Lib.hid (T1.out.keep hb3)
  replace T2 := Lib.hid (T2.out.keep hb3)
  replace S1 := Lib.hid (S1.out.below hb3)
  replace S2 := Lib.hid (S2.out.below hb3)
  replace HB := Lib.hid (HB.out.trans (hb3.mono HB.out.size))
  clear hb3
  have R := Lib.hid (hv4o)
  clear hv4o
  have L2 := Lib.hid T2.out.lt
  have T1l := T1.out.lt
  have T1a := T1.out.c0
  have T1b := T1.out.c1
  have T1f := T1.out.fz 0
  have T1g := T1.out.fz 1
  go_wp2_with fail
  clear T1l T1a T1b T1f T1g
  generalize ha6 : World.alloc (wc2) _ = wa5
  have hb7 : Below wc2.heap.size wc2 wa5 := by rw [← ha6]; exact (Below.refl _ _).alloc (Nat.le_refl _) _
  have T3 : Hid (Two wa5 (wc2.heap.size) (.bool dr) (.slice AR ARn ARc)) := Lib.hid (by rw [← ha6]; exact Two.made _ _ _)
  clear ha6
  replace T0 := Lib.hid (T0.out.keep hb7)
  replace T1 := Lib.hid (T1.out.keep hb7)
  replace T2 := Lib.hid (T2.out.keep hb7)
  replace S1 := Lib.hid (S1.out.below hb7)
  replace S2 := Lib.hid (S2.out.below hb7)
  replace R := Lib.hid (R.out.below hb7)
  replace HB := Lib.hid (HB.out.trans (hb7.mono HB.out.size))
  clear hb7
  have HC8 := iabs_rd S2.out
  refine (HC8).mono ?_
  rintro e wc9 ⟨⟨u, rfl, hv11⟩, hb10⟩
  clear HC8
  obtain ⟨AU, AUn, AUc, rfl, hv11o⟩ := hv11.open_
  obtain ⟨du, duh⟩ : ∃ du, decide (((z2.natAbs : Nat) : Int) < 0) = du := ⟨_, rfl⟩
  rw [duh] at hv11o ⊢
  clear hv11 duh
  replace T0 := Lib.hid (T0.out.keep hb10)
  replace T1 := Lib.hid (T1.out.keep hb10)
  replace T2 := Lib.hid (T2.out.keep hb10)
  replace T3 := Lib.hid (T3.out.keep hb10)
  replace S1 := Lib.hid (S1.out.below hb10)
  replace S2 := Lib.hid (S2.out.below hb10)
  replace R := Lib.hid (R.out.below hb10)
  replace HB := Lib.hid (HB.out.trans (hb10.mono HB.out.size))
  clear hb10
  have U := Lib.hid (hv11o)
  clear hv11o
  have L3 := Lib.hid T3.out.lt
  go_wp2_with fail
  generalize ha13 : World.alloc (wc9) _ = wa12
  have hb14 : Below wc9.heap.size wc9 wa12 := by rw [← ha13]; exact (Below.refl _ _).alloc (Nat.le_refl _) _
  have T4 : Hid (Two wa12 (wc9.heap.size) (.bool du) (.slice AU AUn AUc)) := Lib.hid (by rw [← ha13]; exact Two.made _ _ _)
  clear ha13
  replace T0 := Lib.hid (T0.out.keep hb14)
  replace T1 := Lib.hid (T1.out.keep hb14)
  replace T2 := Lib.hid (T2.out.keep hb14)
  replace T3 := Lib.hid (T3.out.keep hb14)
  replace S1 := Lib.hid (S1.out.below hb14)
  replace S2 := Lib.hid (S2.out.below hb14)
  replace R := Lib.hid (R.out.below hb14)
  replace U := Lib.hid (U.out.below hb14)
  replace HB := Lib.hid (HB.out.trans (hb14.mono HB.out.size))
  clear hb14
  replace T0 := Lib.hid T0.out.drew
  replace T1 := Lib.hid T1.out.drew
  replace T2 := Lib.hid T2.out.drew
  replace T3 := Lib.hid T3.out.drew
  replace T4 := Lib.hid T4.out.drew
  replace S1 := Lib.hid S1.out.drew
  replace S2 := Lib.hid S2.out.drew
  replace R := Lib.hid R.out.drew
  replace U := Lib.hid U.out.drew
  replace HB := Lib.hid (below_drewN HB.out 1)
  have T3a := T3.out.c0
  have T3b := T3.out.c1
  have T4a := T4.out.c0
  have T4b := T4.out.c1
  go_region_held3 (fun w' => w'.cell? ⟨wc2.heap.size, 0, none⟩ = some (.bool dr) ∧ w'.cell? ⟨wc2.heap.size, 1, none⟩ = some (.slice AR ARn ARc) ∧ w'.cell? ⟨wc9.heap.size, 0, none⟩ = some (.bool du) ∧ w'.cell? ⟨wc9.heap.size, 1, none⟩ = some (.slice AU AUn AUc))
    ((first | (refine ⟨?_, ?_, ?_, ?_⟩ <;> (with_reducible assumption))))
    (first
     | (go_at_call 63; with_reducible refine (ishl1_rd (R.out.rds ZR.out) (Nat.le_trans HK.out.2 (by decide))).mono ?_; rintro e wx ⟨⟨ux, rfl, hvx⟩, hbx⟩; obtain ⟨AD, ADn, ADc, rfl, hvy⟩ := hvx.open_; obtain ⟨dd, ddh⟩ : ∃ dd, decide ((r * 2 ^ 1) < 0) = dd := ⟨_, rfl⟩; rw [ddh] at hvy ⊢; clear hvx ddh
        replace T0 := Lib.hid (T0.out.keep hbx)
        replace T1 := Lib.hid (T1.out.keep hbx)
        replace T2 := Lib.hid (T2.out.keep hbx)
        replace T3 := Lib.hid (T3.out.keep hbx)
        replace T4 := Lib.hid (T4.out.keep hbx)
        replace T3a := T3.out.c0
        replace T3b := T3.out.c1
        replace T4a := T4.out.c0
        replace T4b := T4.out.c1
        replace S1 := Lib.hid (S1.out.below hbx)
        replace S2 := Lib.hid (S2.out.below hbx)
        replace R := Lib.hid (R.out.below hbx)
        replace U := Lib.hid (U.out.below hbx)
        try replace D := Lib.hid (D.out.below hbx)
        replace HB := Lib.hid (HB.out.trans (hbx.mono HB.out.size))
        have D := Lib.hid hvy
        clear hvy
        clear hbx)
     | (go_at_call 25; with_reducible refine (icmp_is (D.out.rds ZR.out.two) (U.out.rds Z2.out.abs) HC.out).mono ?_; rintro e wx ⟨rfl, hbx⟩
        replace T0 := Lib.hid (T0.out.keep hbx)
        replace T1 := Lib.hid (T1.out.keep hbx)
        replace T2 := Lib.hid (T2.out.keep hbx)
        replace T3 := Lib.hid (T3.out.keep hbx)
        replace T4 := Lib.hid (T4.out.keep hbx)
        replace T3a := T3.out.c0
        replace T3b := T3.out.c1
        replace T4a := T4.out.c0
        replace T4b := T4.out.c1
        replace S1 := Lib.hid (S1.out.below hbx)
        replace S2 := Lib.hid (S2.out.below hbx)
        replace R := Lib.hid (R.out.below hbx)
        replace U := Lib.hid (U.out.below hbx)
        try replace D := Lib.hid (D.out.below hbx)
        replace HB := Lib.hid (HB.out.trans (hbx.mono HB.out.size))
        clear hbx))
  all_goals
    rename_i hH
    clear hH
    clear D
    have q2 := L2.out
    have q3 := L3.out
    rw [HY.out] at R
    clear T3a T3b T4a T4b
    have T2l := T2.out.lt
    have T2a := T2.out.c0
    have T2b := T2.out.c1
    have T2f := T2.out.fz 0
    have T2g := T2.out.fz 1
    have T3l := T3.out.lt
    have T3a := T3.out.c0
    have T3b := T3.out.c1
    have T3f := T3.out.fz 0
    have T3g := T3.out.fz 1
    have T4l := T4.out.lt
    have T4a := T4.out.c0
    have T4b := T4.out.c1
    have T4f := T4.out.fz 0
    have T4g := T4.out.fz 1
    go_wp2_with fail
    refine with_facts (fun  F => Two F (w.heap.size + 1 + 1) (.bool dr) (.slice AR ARn ARc) ∧ In F (.agg #[.bool dr, .slice AR ARn ARc]) y ∧ Below w.heap.size w F) ?fa ?fk
    case fa => refine ⟨?_, ?_, ?_⟩ <;> (repeat (first | with_reducible exact T2.out | with_reducible exact N1.out | with_reducible exact N2.out | with_reducible exact R.out | with_reducible exact HB.out | with_reducible exact Bs.of N1.out | with_reducible exact Bs.of N2.out | with_reducible exact Bs.of T2.out | with_reducible exact Bs.of T0.out | with_reducible exact Bs.of T1.out | with_reducible exact Bs.of T3.out | with_reducible exact Bs.of T4.out | with_reducible refine Two.st ?_ _ _ | (with_reducible refine Two.ot ?_ ?hne _ _; case hne => omega) | (with_reducible refine Two.mk' ?_ _ _; (first | with_reducible rfl | omega | (simp; done))) | with_reducible refine Two.alloc ?_ _ | with_reducible refine Bs.same ?_ _ _ _ _ | (with_reducible refine Bs.ot ?_ ?hne _ _; case hne => omega) | (with_reducible refine Bs.mk' ?_ _ _ _ _; (first | with_reducible rfl | omega | (simp; done))) | with_reducible refine Bs.al ?_ _ | with_reducible refine In.st ?_ ?_ _ _ | with_reducible refine In.al ?_ _ | with_reducible refine Rd.st ?_ ?_ _ _ | with_reducible refine Rd.al ?_ _ | (with_reducible refine Below.st ?_ ?hne _ _; case hne => omega) | with_reducible refine Below.al ?_ _))
    case fk =>
      intro F hF
      obtain ⟨T2p, Rp, HBp⟩ := hF
      replace T2 := Lib.hid T2p
      clear T2p
      replace R := Lib.hid Rp
      clear Rp
      replace HB := Lib.hid HBp
      clear HBp
      have T2a := T2.out.c0
      have T2b := T2.out.c1
      have T2f := T2.out.fz 0
      have T2g := T2.out.fz 1
      exact bodyPost_ret (v := .tuple #[.agg #[.bool dr, .slice AR ARn ARc], .int .i64 0]) (by simp [results, Try.results36, go_sem, T2a, T2b]) rfl ⟨⟨_, rfl, R.out⟩, HB.out⟩

theorem symm_rd {v1 v2 : Value} {z1 z2 : Int} {k1 k2 : Nat} {w : World} (h1 : Rd w v1 z1 k1) (h2 : Rd w v2 z2 k2) (q1 : k1 ≤ 100000) (q2 : k2 ≤ 100000) (hz : z2 ≠ 0) :
    Calls Try.prog 36 #[v1, v2] w fun e w' => (∃ r, e = .returned (.tuple #[r, .int .i64 0]) ∧ In w' r (sy z1 z2)) ∧ Below w.heap.size w w' := by
  by_cases hs : (z2.natAbs : Int) < z1 % z2 * 2 ^ 1
  · exact symm_big h1 h2 q1 q2 hz hs
  · exact symm_small h1 h2 q1 q2 hz hs

/-- The nearest integer to the quotient, of two the even one. -/
def rn (a b : Int) : Int := if (b.natAbs : Int) < ((Int.fmod a b).natAbs : Int) * 2 ^ 1 ∨ ((b.natAbs : Int) = ((Int.fmod a b).natAbs : Int) * 2 ^ 1 ∧ Int.fdiv a b % 2 = 1) then Int.fdiv a b + 1 else Int.fdiv a b
theorem cmpZ_zero' {a b : Int} (h : b = a) : cmpZ a b = 0 := by
  subst h
  unfold cmpZ
  rw [if_neg (by omega), if_neg (by omega)]
theorem cmpZ_neg1 {a b : Int} (h : a < b) : cmpZ a b = -1 := by
  unfold cmpZ
  rw [if_pos h]

end Go.Proofs.Ytgmooidagkbheaa
