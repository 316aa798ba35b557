/-
  division.Round.
-/
import Derived.Test.YtgmooidagkbheaaSy
import Derived.Deep.RegionWith
namespace Go.Proofs.Ytgmooidagkbheaa
open Go.RowKit Go.Proofs.YtgmooidagkbheaaW.PrintWords
set_option linter.unusedVariables false

set_option maxHeartbeats 4000000 in
set_option maxRecDepth 100000 in
theorem round0_rd {v1 v2 : Value} {z1 z2 : Int} {k1 k2 : Nat} {w : World} (h1 : Rd w v1 z1 k1) (h2 : Rd w v2 z2 k2) (hz : z2 = 0) :
    Calls Try.prog 35 #[v1, v2] w fun e w' => e = .returned (.tuple #[.agg #[.bool false, .slice none 0 0], .int .i64 2]) ∧ Below w.heap.size w w' := by
  obtain ⟨g1, A1, n1, c1, rfl, hs1⟩ := h1.open_
  obtain ⟨g2, A2, n2, c2, rfl, hs2⟩ := h2.open_
  have hbx := boxes3 w (.bool g1) (.slice A1 n1 c1) (.bool g2) (.slice A2 n2 c2)
  generalize hW : ((w.alloc (.cells #[.bool g1, .slice A1 n1 c1] 25)).alloc (.cells #[.bool g2, .slice A2 n2 c2] 25)).alloc (.cells #[.bool false, .slice none 0 0] 25)  = W at hbx
  obtain ⟨hbw, ht0, ht1, ht2⟩ := hbx
  have T0 := Lib.hid ht0
  have T1 := Lib.hid ht1
  have T2 := Lib.hid ht2
  have S1 := Lib.hid (hs1.below hbw)
  have S2 := Lib.hid (hs2.below hbw)
  have HB := Lib.hid hbw
  have HW := Lib.hid hW
  clear h1 h2 hs1 hs2 hbw ht0 ht1 ht2 hW
  have T0a := T0.out.c0
  have T0b := T0.out.c1
  have T0f := T0.out.fz 0
  have T0g := T0.out.fz 1
  have T1a := T1.out.c0
  have T1b := T1.out.c1
  have T1f := T1.out.fz 0
  have T1g := T1.out.fz 1
  have T2a := T2.out.c0
  have T2b := T2.out.c1
  have T2f := T2.out.fz 0
  have T2g := T2.out.fz 1
  go_enter Try.func35, Try.ntmps35
  go_wp2_with fail
  rw [HW.out]
  have HC1 := floor0_is S1.out S2.out hz
  refine (HC1).mono ?_
  rintro e wc2 ⟨rfl, hb3⟩
  clear HC1
  clear T0a T0b T0f T0g T1a T1b T1f T1g T2a T2b T2f T2g
  replace T0 := Lib.hid (T0.out.keep hb3)
  replace T1 := Lib.hid (T1.out.keep hb3)
  replace T2 := Lib.hid (T2.out.keep hb3)
  replace S1 := Lib.hid (S1.out.below hb3)
  replace S2 := Lib.hid (S2.out.below hb3)
  replace HB := Lib.hid (HB.out.trans (hb3.mono HB.out.size))
  clear hb3
  have q2 := T2.out.lt
  have T2l := T2.out.lt
  have T2a := T2.out.c0
  have T2b := T2.out.c1
  have T2f := T2.out.fz 0
  have T2g := T2.out.fz 1
  have tx := (T2.out.alloc (.cells #[.bool false, .slice none 0 0] 25)).alloc (.cells #[.bool false, .slice none 0 0] 25)
  have x1 := tx.c0
  have x2 := tx.c1
  have x3 := tx.fz 0
  have x4 := tx.fz 1
  clear tx
  go_wp2_with fail
  clear x1 x2 x3 x4
  refine with_facts (fun  F => Two F (w.heap.size + 1 + 1) (.bool false) (.slice none 0 0) ∧ Below w.heap.size w F) ?fa ?fk
  case fa => refine ⟨?_, ?_⟩ <;> (repeat (first | with_reducible exact T2.out | with_reducible exact N1.out | with_reducible exact N2.out | with_reducible exact HB.out | with_reducible exact Bs.of N1.out | with_reducible exact Bs.of N2.out | with_reducible exact Bs.of T2.out | with_reducible exact Bs.of T0.out | with_reducible exact Bs.of T1.out | with_reducible refine Two.st ?_ _ _ | (with_reducible refine Two.ot ?_ ?hne _ _; case hne => omega) | (with_reducible refine Two.mk' ?_ _ _; (first | with_reducible rfl | omega | (simp; done))) | with_reducible refine Two.alloc ?_ _ | with_reducible refine Bs.same ?_ _ _ _ _ | (with_reducible refine Bs.ot ?_ ?hne _ _; case hne => omega) | (with_reducible refine Bs.mk' ?_ _ _ _ _; (first | with_reducible rfl | omega | (simp; done))) | with_reducible refine Bs.al ?_ _ | with_reducible refine In.st ?_ ?_ _ _ | with_reducible refine In.al ?_ _ | with_reducible refine Rd.st ?_ ?_ _ _ | with_reducible refine Rd.al ?_ _ | (with_reducible refine Below.st ?_ ?hne _ _; case hne => omega) | with_reducible refine Below.al ?_ _))
  case fk =>
    intro F hF
    obtain ⟨T2p, HBp⟩ := hF
    replace T2 := Lib.hid T2p
    clear T2p
    replace HB := Lib.hid HBp
    clear HBp
    have T2a := T2.out.c0
    have T2b := T2.out.c1
    have T2f := T2.out.fz 0
    have T2g := T2.out.fz 1
    exact bodyPost_ret (v := .tuple #[.agg #[.bool false, .slice none 0 0], .int .i64 2]) (by simp [results, Try.results35, go_sem, T2a, T2b]) rfl ⟨rfl, HB.out⟩

set_option maxHeartbeats 4000000 in
set_option maxRecDepth 100000 in
theorem round_A {v1 v2 : Value} {z1 z2 : Int} {k1 k2 : Nat} {w : World} (h1 : Rd w v1 z1 k1) (h2 : Rd w v2 z2 k2) (q1 : k1 ≤ 100000) (q2 : k2 ≤ 100000) (hz : z2 ≠ 0) (hs : (z2.natAbs : Int) < ((Int.fmod z1 z2).natAbs : Int) * 2 ^ 1) :
    Calls Try.prog 35 #[v1, v2] w fun e w' => (∃ r, e = .returned (.tuple #[r, .int .i64 0]) ∧ In w' r (rn z1 z2)) ∧ Below w.heap.size w w' := by
  obtain ⟨g1, A1, n1, c1, rfl, hs1⟩ := h1.open_
  obtain ⟨g2, A2, n2, c2, rfl, hs2⟩ := h2.open_
  have hbx := boxes3 w (.bool g1) (.slice A1 n1 c1) (.bool g2) (.slice A2 n2 c2)
  generalize hW : ((w.alloc (.cells #[.bool g1, .slice A1 n1 c1] 25)).alloc (.cells #[.bool g2, .slice A2 n2 c2] 25)).alloc (.cells #[.bool false, .slice none 0 0] 25)  = W at hbx
  obtain ⟨hbw, ht0, ht1, ht2⟩ := hbx
  have T0 := Lib.hid ht0
  have T1 := Lib.hid ht1
  have T2 := Lib.hid ht2
  have S1 := Lib.hid (hs1.below hbw)
  have S2 := Lib.hid (hs2.below hbw)
  have HB := Lib.hid hbw
  have HW := Lib.hid hW
  clear h1 h2 hs1 hs2 hbw ht0 ht1 ht2 hW
  have Z2 := Lib.hid S2.out.sz
  have HZ := Lib.hid hz
  have HK := Lib.hid (And.intro q1 q2)
  have ZR : Hid (Sz k2 (Int.fmod z1 z2)) := Lib.hid (Z2.out.fmod hz)
  have ZQ : Hid (Sz (k1 + 1) (Int.fdiv z1 z2)) := Lib.hid (S1.out.sz.fdiv hz)
  have HC : Hid (cmpZ (((Int.fmod z1 z2).natAbs : Int) * 2 ^ 1) (z2.natAbs : Int) = 1) := Lib.hid (cmpZ_one hs)
  have HY : Hid (Int.fdiv z1 z2 + 1 = rn z1 z2) := Lib.hid (by unfold rn; rw [if_pos (Or.inl hs)])
  clear hs hz q1 q2
  generalize rn z1 z2 = y at *
  obtain ⟨r, hr⟩ : ∃ r, Int.fmod z1 z2 = r := ⟨_, rfl⟩
  obtain ⟨q, hq⟩ : ∃ q, Int.fdiv z1 z2 = q := ⟨_, rfl⟩
  rw [hr] at HC ZR
  rw [hq] at HY ZQ
  have HR := Lib.hid hr
  have HQ := Lib.hid hq
  clear hr hq
  have T0a := T0.out.c0
  have T0b := T0.out.c1
  have T0f := T0.out.fz 0
  have T0g := T0.out.fz 1
  have T1a := T1.out.c0
  have T1b := T1.out.c1
  have T1f := T1.out.fz 0
  have T1g := T1.out.fz 1
  have T2a := T2.out.c0
  have T2b := T2.out.c1
  have T2f := T2.out.fz 0
  have T2g := T2.out.fz 1
  go_enter Try.func35, Try.ntmps35
  go_wp2_with fail
  rw [HW.out]
  have HC1 := floor_is S1.out S2.out HK.out.1 HK.out.2 HZ.out HQ.out HR.out
  refine (HC1).mono ?_
  rintro e wc2 ⟨⟨u, u', rfl, hv4, hu5⟩, hb3⟩
  clear HC1
  obtain ⟨AQ, AQn, AQc, rfl, hv4o⟩ := hv4.open_
  obtain ⟨dq, dqh⟩ : ∃ dq, decide (q < 0) = dq := ⟨_, rfl⟩
  rw [dqh] at hv4o ⊢
  clear hv4 dqh
  obtain ⟨AR, ARn, ARc, rfl, hu5o⟩ := hu5.open_
  obtain ⟨dr, drh⟩ : ∃ dr, decide (r < 0) = dr := ⟨_, rfl⟩
  rw [drh] at hu5o ⊢
  clear hu5 drh
  clear T0a T0b T0f T0g T1a T1b T1f T1g T2a T2b T2f T2g
  replace T0 := Lib.hid (T0.out.keep hb3)
  replace T1 := Lib.hid (T1.out.keep hb3)
  replace T2 := Lib.hid (T2.out.keep hb3)
  replace S1 := Lib.hid (S1.out.below hb3)
  replace S2 := Lib.hid (S2.out.below hb3)
  replace HB := Lib.hid (HB.out.trans (hb3.mono HB.out.size))
  clear hb3
  have Q := Lib.hid (hv4o)
  clear hv4o
  have R := Lib.hid (hu5o)
  clear hu5o
  have q2 := T2.out.lt
  have L2 := Lib.hid T2.out.lt
  have T1l := T1.out.lt
  have T1a := T1.out.c0
  have T1b := T1.out.c1
  have T1f := T1.out.fz 0
  have T1g := T1.out.fz 1
  go_wp2_with fail
  clear T1l T1a T1b T1f T1g
  generalize ha7 : World.alloc (World.alloc (wc2) _) _ = wa6
  have hb8 : Below wc2.heap.size wc2 wa6 := by rw [← ha7]; exact boxed2 _ _ _
  have T3 : Hid (Two wa6 (wc2.heap.size) (.bool dq) (.slice AQ AQn AQc)) := Lib.hid (by rw [← ha7]; exact Two.alloc (Two.made _ _ _) _)
  have T4 : Hid (Two wa6 (wc2.heap.size + 1) (.bool dr) (.slice AR ARn ARc)) := Lib.hid (by rw [← ha7]; exact Two.made2 _ _ _ _)
  clear ha7
  replace T0 := Lib.hid (T0.out.keep hb8)
  replace T1 := Lib.hid (T1.out.keep hb8)
  replace T2 := Lib.hid (T2.out.keep hb8)
  replace S1 := Lib.hid (S1.out.below hb8)
  replace S2 := Lib.hid (S2.out.below hb8)
  replace Q := Lib.hid (Q.out.below hb8)
  replace R := Lib.hid (R.out.below hb8)
  replace HB := Lib.hid (HB.out.trans (hb8.mono HB.out.size))
  clear hb8
  have HC9 := iabs_rd (R.out.rds ZR.out)
  refine (HC9).mono ?_
  rintro e wc10 ⟨⟨u, rfl, hv12⟩, hb11⟩
  clear HC9
  obtain ⟨AU, AUn, AUc, rfl, hv12o⟩ := hv12.open_
  obtain ⟨du, duh⟩ : ∃ du, decide (((r.natAbs : Nat) : Int) < 0) = du := ⟨_, rfl⟩
  rw [duh] at hv12o ⊢
  clear hv12 duh
  replace T0 := Lib.hid (T0.out.keep hb11)
  replace T1 := Lib.hid (T1.out.keep hb11)
  replace T2 := Lib.hid (T2.out.keep hb11)
  replace T3 := Lib.hid (T3.out.keep hb11)
  replace T4 := Lib.hid (T4.out.keep hb11)
  replace S1 := Lib.hid (S1.out.below hb11)
  replace S2 := Lib.hid (S2.out.below hb11)
  replace Q := Lib.hid (Q.out.below hb11)
  replace R := Lib.hid (R.out.below hb11)
  replace HB := Lib.hid (HB.out.trans (hb11.mono HB.out.size))
  clear hb11
  have U := Lib.hid (hv12o)
  clear hv12o
  go_wp2_with fail
  have HC13 := ishl1_rd (U.out.rds ZR.out.abs) (Nat.le_trans HK.out.2 (by decide))
  refine (HC13).mono ?_
  rintro e wc14 ⟨⟨u, rfl, hv16⟩, hb15⟩
  clear HC13
  obtain ⟨AD, ADn, ADc, rfl, hv16o⟩ := hv16.open_
  obtain ⟨dd, ddh⟩ : ∃ dd, decide ((((r.natAbs : Nat) : Int) * 2 ^ 1) < 0) = dd := ⟨_, rfl⟩
  rw [ddh] at hv16o ⊢
  clear hv16 ddh
  replace T0 := Lib.hid (T0.out.keep hb15)
  replace T1 := Lib.hid (T1.out.keep hb15)
  replace T2 := Lib.hid (T2.out.keep hb15)
  replace T3 := Lib.hid (T3.out.keep hb15)
  replace T4 := Lib.hid (T4.out.keep hb15)
  replace S1 := Lib.hid (S1.out.below hb15)
  replace S2 := Lib.hid (S2.out.below hb15)
  replace Q := Lib.hid (Q.out.below hb15)
  replace R := Lib.hid (R.out.below hb15)
  replace U := Lib.hid (U.out.below hb15)
  replace HB := Lib.hid (HB.out.trans (hb15.mono HB.out.size))
  clear hb15
  have D := Lib.hid (hv16o)
  clear hv16o
  clear U
  have q3 := T3.out.lt
  have q4 := T4.out.lt
  go_wp2_with fail
  generalize ha18 : World.alloc (wc14) _ = wa17
  have hb19 : Below wc14.heap.size wc14 wa17 := by rw [← ha18]; exact (Below.refl _ _).alloc (Nat.le_refl _) _
  have T5 : Hid (Two wa17 (wc14.heap.size) (.bool dd) (.slice AD ADn ADc)) := Lib.hid (by rw [← ha18]; exact Two.made _ _ _)
  clear ha18
  replace T0 := Lib.hid (T0.out.keep hb19)
  replace T1 := Lib.hid (T1.out.keep hb19)
  replace T2 := Lib.hid (T2.out.keep hb19)
  replace T3 := Lib.hid (T3.out.keep hb19)
  replace T4 := Lib.hid (T4.out.keep hb19)
  replace S1 := Lib.hid (S1.out.below hb19)
  replace S2 := Lib.hid (S2.out.below hb19)
  replace Q := Lib.hid (Q.out.below hb19)
  replace R := Lib.hid (R.out.below hb19)
  replace D := Lib.hid (D.out.below hb19)
  replace HB := Lib.hid (HB.out.trans (hb19.mono HB.out.size))
  clear hb19
  replace T0 := Lib.hid T0.out.drew
  replace T1 := Lib.hid T1.out.drew
  replace T2 := Lib.hid T2.out.drew
  replace T3 := Lib.hid T3.out.drew
  replace T4 := Lib.hid T4.out.drew
  replace T5 := Lib.hid T5.out.drew
  replace S1 := Lib.hid S1.out.drew
  replace S2 := Lib.hid S2.out.drew
  replace Q := Lib.hid Q.out.drew
  replace R := Lib.hid R.out.drew
  replace D := Lib.hid D.out.drew
  replace HB := Lib.hid (below_drewN HB.out 1)
  have T5a := T5.out.c0
  have T5b := T5.out.c1
  have T1a := T1.out.c0
  have T1b := T1.out.c1
  go_region_held3 (fun w' => w'.cell? ⟨wc14.heap.size, 0, none⟩ = some (.bool dd) ∧ w'.cell? ⟨wc14.heap.size, 1, none⟩ = some (.slice AD ADn ADc) ∧ w'.cell? ⟨w.heap.size + 1, 0, none⟩ = some (.bool g2) ∧ w'.cell? ⟨w.heap.size + 1, 1, none⟩ = some (.slice A2 n2 c2))
    ((first | (refine ⟨?_, ?_, ?_, ?_⟩ <;> (with_reducible assumption))))
    (first
     | (go_at_call 26; with_reducible refine (iabs_rd S2.out).mono ?_; rintro e wx ⟨⟨ux, rfl, hvx⟩, hbx⟩; obtain ⟨AX, AXn, AXc, rfl, hvy⟩ := hvx.open_; obtain ⟨dx, dxh⟩ : ∃ dx, decide (((z2.natAbs : Nat) : Int) < 0) = dx := ⟨_, rfl⟩; rw [dxh] at hvy ⊢; clear hvx dxh
        replace T0 := Lib.hid (T0.out.keep hbx)
        replace T1 := Lib.hid (T1.out.keep hbx)
        replace T2 := Lib.hid (T2.out.keep hbx)
        replace T3 := Lib.hid (T3.out.keep hbx)
        replace T4 := Lib.hid (T4.out.keep hbx)
        replace T5 := Lib.hid (T5.out.keep hbx)
        replace T5a := T5.out.c0
        replace T5b := T5.out.c1
        replace T1a := T1.out.c0
        replace T1b := T1.out.c1
        replace S1 := Lib.hid (S1.out.below hbx)
        replace S2 := Lib.hid (S2.out.below hbx)
        replace Q := Lib.hid (Q.out.below hbx)
        replace R := Lib.hid (R.out.below hbx)
        replace D := Lib.hid (D.out.below hbx)
        try replace X := Lib.hid (X.out.below hbx)
        replace HB := Lib.hid (HB.out.trans (hbx.mono HB.out.size))
        have X := Lib.hid hvy
        clear hvy
        clear hbx)
     | (go_at_call 25; with_reducible refine (icmp_is (D.out.rds ZR.out.abs.two) (X.out.rds Z2.out.abs) HC.out).mono ?_; rintro e wx ⟨rfl, hbx⟩
        replace T0 := Lib.hid (T0.out.keep hbx)
        replace T1 := Lib.hid (T1.out.keep hbx)
        replace T2 := Lib.hid (T2.out.keep hbx)
        replace T3 := Lib.hid (T3.out.keep hbx)
        replace T4 := Lib.hid (T4.out.keep hbx)
        replace T5 := Lib.hid (T5.out.keep hbx)
        replace T5a := T5.out.c0
        replace T5b := T5.out.c1
        replace T1a := T1.out.c0
        replace T1b := T1.out.c1
        replace S1 := Lib.hid (S1.out.below hbx)
        replace S2 := Lib.hid (S2.out.below hbx)
        replace Q := Lib.hid (Q.out.below hbx)
        replace R := Lib.hid (R.out.below hbx)
        replace D := Lib.hid (D.out.below hbx)
        try replace X := Lib.hid (X.out.below hbx)
        replace HB := Lib.hid (HB.out.trans (hbx.mono HB.out.size))
        clear hbx))
  all_goals
    rename_i hH
    clear hH
    clear X
    clear T5a T5b T1a T1b
    have T3a := T3.out.c0
    have T3b := T3.out.c1
    have T3f := T3.out.fz 0
    have T3g := T3.out.fz 1
    go_wp2_with fail
    clear T3a T3b T3f T3g
    have T3da := T3.out.c0
    have T3db := T3.out.c1
    have T3df := T3.out.fz 0
    have T3dg := T3.out.fz 1
    replace T0 := Lib.hid T0.out.drew
    replace T1 := Lib.hid T1.out.drew
    replace T2 := Lib.hid T2.out.drew
    replace T3 := Lib.hid T3.out.drew
    replace T4 := Lib.hid T4.out.drew
    replace T5 := Lib.hid T5.out.drew
    replace S1 := Lib.hid S1.out.drew
    replace S2 := Lib.hid S2.out.drew
    replace Q := Lib.hid Q.out.drew
    replace R := Lib.hid R.out.drew
    replace D := Lib.hid D.out.drew
    replace HB := Lib.hid (below_drewN HB.out 1)
    have T3a := T3.out.c0
    have T3b := T3.out.c1
    have T3f := T3.out.fz 0
    have T3g := T3.out.fz 1
    go_region_with (first
     | (go_at_call 31; with_reducible refine (iof_calls 1 (by decide) (by decide) _).mono ?_; rintro e wx ⟨⟨ux, rfl, hvx⟩, hbx⟩; obtain ⟨AE, AEn, AEc, rfl, hvy⟩ := hvx.open_; rw [show decide ((1 : Int) < 0) = false from by decide] at hvy ⊢; clear hvx
        replace T0 := Lib.hid (T0.out.keep hbx)
        replace T1 := Lib.hid (T1.out.keep hbx)
        replace T2 := Lib.hid (T2.out.keep hbx)
        replace T3 := Lib.hid (T3.out.keep hbx)
        replace T4 := Lib.hid (T4.out.keep hbx)
        replace T5 := Lib.hid (T5.out.keep hbx)
        replace T3a := T3.out.c0
        replace T3b := T3.out.c1
        replace T3f := T3.out.fz 0
        replace T3g := T3.out.fz 1
        replace S1 := Lib.hid (S1.out.below hbx)
        replace S2 := Lib.hid (S2.out.below hbx)
        replace Q := Lib.hid (Q.out.below hbx)
        replace R := Lib.hid (R.out.below hbx)
        replace D := Lib.hid (D.out.below hbx)
        try replace E := Lib.hid (E.out.below hbx)
        replace HB := Lib.hid (HB.out.trans (hbx.mono HB.out.size))
        have E := Lib.hid hvy
        clear hvy
        clear hbx)
     | (go_at_call 28; with_reducible refine (iadd_rd (Q.out.rds ZQ.out) (E.out.rds (k := 1) (Sz.small (by decide))) (by have := HK.out.1; omega) (by decide)).mono ?_; rintro e wx ⟨⟨ux, rfl, hvx⟩, hbx⟩; obtain ⟨AY, AYn, AYc, rfl, hvy⟩ := hvx.open_; obtain ⟨dy, dyh⟩ : ∃ dy, decide ((q + 1) < 0) = dy := ⟨_, rfl⟩; rw [dyh] at hvy ⊢; clear hvx dyh
        replace T0 := Lib.hid (T0.out.keep hbx)
        replace T1 := Lib.hid (T1.out.keep hbx)
        replace T2 := Lib.hid (T2.out.keep hbx)
        replace T3 := Lib.hid (T3.out.keep hbx)
        replace T4 := Lib.hid (T4.out.keep hbx)
        replace T5 := Lib.hid (T5.out.keep hbx)
        replace T3a := T3.out.c0
        replace T3b := T3.out.c1
        replace T3f := T3.out.fz 0
        replace T3g := T3.out.fz 1
        replace S1 := Lib.hid (S1.out.below hbx)
        replace S2 := Lib.hid (S2.out.below hbx)
        replace Q := Lib.hid (Q.out.below hbx)
        replace R := Lib.hid (R.out.below hbx)
        replace D := Lib.hid (D.out.below hbx)
        try replace E := Lib.hid (E.out.below hbx)
        replace HB := Lib.hid (HB.out.trans (hbx.mono HB.out.size))
        have Y := Lib.hid hvy
        clear hvy
        clear hbx))
    all_goals
      clear T3da T3db T3df T3dg
      rw [HY.out] at Y
      clear E
      have T2a := T2.out.c0
      have T2b := T2.out.c1
      have T2f := T2.out.fz 0
      have T2g := T2.out.fz 1
      have T2l := T2.out.lt
      go_wp2_with fail
      clear T2a T2b T2f T2g T2l T3a T3b T3f T3g
      refine with_facts (fun  F => Two F (w.heap.size + 1 + 1) (.bool dy) (.slice AY AYn AYc) ∧ In F (.agg #[.bool dy, .slice AY AYn AYc]) y ∧ Below w.heap.size w F) ?fa ?fk
      case fa => refine ⟨?_, ?_, ?_⟩ <;> (repeat (first | with_reducible exact T2.out | with_reducible exact N1.out | with_reducible exact N2.out | with_reducible exact Y.out | with_reducible exact HB.out | with_reducible exact Bs.of N1.out | with_reducible exact Bs.of N2.out | with_reducible exact Bs.of T2.out | with_reducible exact Bs.of T0.out | with_reducible exact Bs.of T1.out | with_reducible exact Bs.of T3.out | with_reducible exact Bs.of T4.out | with_reducible exact Bs.of T5.out | with_reducible refine Two.st ?_ _ _ | (with_reducible refine Two.ot ?_ ?hne _ _; case hne => omega) | (with_reducible refine Two.mk' ?_ _ _; (first | with_reducible rfl | omega | (simp; done))) | with_reducible refine Two.alloc ?_ _ | with_reducible refine Bs.same ?_ _ _ _ _ | (with_reducible refine Bs.ot ?_ ?hne _ _; case hne => omega) | (with_reducible refine Bs.mk' ?_ _ _ _ _; (first | with_reducible rfl | omega | (simp; done))) | with_reducible refine Bs.al ?_ _ | with_reducible refine In.st ?_ ?_ _ _ | with_reducible refine In.al ?_ _ | with_reducible refine Rd.st ?_ ?_ _ _ | with_reducible refine Rd.al ?_ _ | (with_reducible refine Below.st ?_ ?hne _ _; case hne => omega) | with_reducible refine Below.al ?_ _))
      case fk =>
        intro F hF
        obtain ⟨T2p, Yp, HBp⟩ := hF
        replace T2 := Lib.hid T2p
        clear T2p
        replace Y := Lib.hid Yp
        clear Yp
        replace HB := Lib.hid HBp
        clear HBp
        have T2a := T2.out.c0
        have T2b := T2.out.c1
        have T2f := T2.out.fz 0
        have T2g := T2.out.fz 1
        exact bodyPost_ret (v := .tuple #[.agg #[.bool dy, .slice AY AYn AYc], .int .i64 0]) (by simp [results, Try.results35, go_sem, T2a, T2b]) rfl ⟨⟨_, rfl, Y.out⟩, HB.out⟩

set_option maxHeartbeats 4000000 in
set_option maxRecDepth 100000 in
theorem round_B {v1 v2 : Value} {z1 z2 : Int} {k1 k2 : Nat} {w : World} (h1 : Rd w v1 z1 k1) (h2 : Rd w v2 z2 k2) (q1 : k1 ≤ 100000) (q2 : k2 ≤ 100000) (hz : z2 ≠ 0) (hs : (z2.natAbs : Int) = ((Int.fmod z1 z2).natAbs : Int) * 2 ^ 1) (ho : Int.fdiv z1 z2 % 2 = 1) :
    Calls Try.prog 35 #[v1, v2] w fun e w' => (∃ r, e = .returned (.tuple #[r, .int .i64 0]) ∧ In w' r (rn z1 z2)) ∧ Below w.heap.size w w' := by
  obtain ⟨g1, A1, n1, c1, rfl, hs1⟩ := h1.open_
  obtain ⟨g2, A2, n2, c2, rfl, hs2⟩ := h2.open_
  have hbx := boxes3 w (.bool g1) (.slice A1 n1 c1) (.bool g2) (.slice A2 n2 c2)
  generalize hW : ((w.alloc (.cells #[.bool g1, .slice A1 n1 c1] 25)).alloc (.cells #[.bool g2, .slice A2 n2 c2] 25)).alloc (.cells #[.bool false, .slice none 0 0] 25)  = W at hbx
  obtain ⟨hbw, ht0, ht1, ht2⟩ := hbx
  have T0 := Lib.hid ht0
  have T1 := Lib.hid ht1
  have T2 := Lib.hid ht2
  have S1 := Lib.hid (hs1.below hbw)
  have S2 := Lib.hid (hs2.below hbw)
  have HB := Lib.hid hbw
  have HW := Lib.hid hW
  clear h1 h2 hs1 hs2 hbw ht0 ht1 ht2 hW
  have Z2 := Lib.hid S2.out.sz
  have HZ := Lib.hid hz
  have HK := Lib.hid (And.intro q1 q2)
  have ZR : Hid (Sz k2 (Int.fmod z1 z2)) := Lib.hid (Z2.out.fmod hz)
  have ZQ : Hid (Sz (k1 + 1) (Int.fdiv z1 z2)) := Lib.hid (S1.out.sz.fdiv hz)
  have HC : Hid (cmpZ (((Int.fmod z1 z2).natAbs : Int) * 2 ^ 1) (z2.natAbs : Int) = 0) := Lib.hid (cmpZ_zero' hs)
  have HO : Hid (decide (Int.fdiv z1 z2 % 2 = 1) = true) := Lib.hid (by simpa using ho)
  have HY : Hid (Int.fdiv z1 z2 + 1 = rn z1 z2) := Lib.hid (by unfold rn; rw [if_pos (Or.inr ⟨hs, ho⟩)])
  clear hs hz q1 q2 ho
  generalize rn z1 z2 = y at *
  obtain ⟨r, hr⟩ : ∃ r, Int.fmod z1 z2 = r := ⟨_, rfl⟩
  obtain ⟨q, hq⟩ : ∃ q, Int.fdiv z1 z2 = q := ⟨_, rfl⟩
  rw [hr] at HC ZR
  rw [hq] at HY ZQ HO
  have HR := Lib.hid hr
  have HQ := Lib.hid hq
  clear hr hq
  have T0a := T0.out.c0
  have T0b := T0.out.c1
  have T0f := T0.out.fz 0
  have T0g := T0.out.fz 1
  have T1a := T1.out.c0
  have T1b := T1.out.c1
  have T1f := T1.out.fz 0
  have T1g := T1.out.fz 1
  have T2a := T2.out.c0
  have T2b := T2.out.c1
  have T2f := T2.out.fz 0
  have T2g := T2.out.fz 1
  go_enter Try.func35, Try.ntmps35
  go_wp2_with fail
  rw [HW.out]
  have HC1 := floor_is S1.out S2.out HK.out.1 HK.out.2 HZ.out HQ.out HR.out
  refine (HC1).mono ?_
  rintro e wc2 ⟨⟨u, u', rfl, hv4, hu5⟩, hb3⟩
  clear HC1
  obtain ⟨AQ, AQn, AQc, rfl, hv4o⟩ := hv4.open_
  obtain ⟨dq, dqh⟩ : ∃ dq, decide (q < 0) = dq := ⟨_, rfl⟩
  rw [dqh] at hv4o ⊢
  clear hv4 dqh
  obtain ⟨AR, ARn, ARc, rfl, hu5o⟩ := hu5.open_
  obtain ⟨dr, drh⟩ : ∃ dr, decide (r < 0) = dr := ⟨_, rfl⟩
  rw [drh] at hu5o ⊢
  clear hu5 drh
  clear T0a T0b T0f T0g T1a T1b T1f T1g T2a T2b T2f T2g
  replace T0 := Lib.hid (T0.out.keep hb3)
  replace T1 := Lib.hid (T1.out.keep hb3)
  replace T2 := Lib.hid (T2.out.keep hb3)
  replace S1 := Lib.hid (S1.out.below hb3)
  replace S2 := Lib.hid (S2.out.below hb3)
  replace HB := Lib.hid (HB.out.trans (hb3.mono HB.out.size))
  clear hb3
  have Q := Lib.hid (hv4o)
  clear hv4o
  have R := Lib.hid (hu5o)
  clear hu5o
  have q2 := T2.out.lt
  have L2 := Lib.hid T2.out.lt
  have T1l := T1.out.lt
  have T1a := T1.out.c0
  have T1b := T1.out.c1
  have T1f := T1.out.fz 0
  have T1g := T1.out.fz 1
  go_wp2_with fail
  clear T1l T1a T1b T1f T1g
  generalize ha7 : World.alloc (World.alloc (wc2) _) _ = wa6
  have hb8 : Below wc2.heap.size wc2 wa6 := by rw [← ha7]; exact boxed2 _ _ _
  have T3 : Hid (Two wa6 (wc2.heap.size) (.bool dq) (.slice AQ AQn AQc)) := Lib.hid (by rw [← ha7]; exact Two.alloc (Two.made _ _ _) _)
  have T4 : Hid (Two wa6 (wc2.heap.size + 1) (.bool dr) (.slice AR ARn ARc)) := Lib.hid (by rw [← ha7]; exact Two.made2 _ _ _ _)
  clear ha7
  replace T0 := Lib.hid (T0.out.keep hb8)
  replace T1 := Lib.hid (T1.out.keep hb8)
  replace T2 := Lib.hid (T2.out.keep hb8)
  replace S1 := Lib.hid (S1.out.below hb8)
  replace S2 := Lib.hid (S2.out.below hb8)
  replace Q := Lib.hid (Q.out.below hb8)
  replace R := Lib.hid (R.out.below hb8)
  replace HB := Lib.hid (HB.out.trans (hb8.mono HB.out.size))
  clear hb8
  have HC9 := iabs_rd (R.out.rds ZR.out)
  refine (HC9).mono ?_
  rintro e wc10 ⟨⟨u, rfl, hv12⟩, hb11⟩
  clear HC9
  obtain ⟨AU, AUn, AUc, rfl, hv12o⟩ := hv12.open_
  obtain ⟨du, duh⟩ : ∃ du, decide (((r.natAbs : Nat) : Int) < 0) = du := ⟨_, rfl⟩
  rw [duh] at hv12o ⊢
  clear hv12 duh
  replace T0 := Lib.hid (T0.out.keep hb11)
  replace T1 := Lib.hid (T1.out.keep hb11)
  replace T2 := Lib.hid (T2.out.keep hb11)
  replace T3 := Lib.hid (T3.out.keep hb11)
  replace T4 := Lib.hid (T4.out.keep hb11)
  replace S1 := Lib.hid (S1.out.below hb11)
  replace S2 := Lib.hid (S2.out.below hb11)
  replace Q := Lib.hid (Q.out.below hb11)
  replace R := Lib.hid (R.out.below hb11)
  replace HB := Lib.hid (HB.out.trans (hb11.mono HB.out.size))
  clear hb11
  have U := Lib.hid (hv12o)
  clear hv12o
  go_wp2_with fail
  have HC13 := ishl1_rd (U.out.rds ZR.out.abs) (Nat.le_trans HK.out.2 (by decide))
  refine (HC13).mono ?_
  rintro e wc14 ⟨⟨u, rfl, hv16⟩, hb15⟩
  clear HC13
  obtain ⟨AD, ADn, ADc, rfl, hv16o⟩ := hv16.open_
  obtain ⟨dd, ddh⟩ : ∃ dd, decide ((((r.natAbs : Nat) : Int) * 2 ^ 1) < 0) = dd := ⟨_, rfl⟩
  rw [ddh] at hv16o ⊢
  clear hv16 ddh
  replace T0 := Lib.hid (T0.out.keep hb15)
  replace T1 := Lib.hid (T1.out.keep hb15)
  replace T2 := Lib.hid (T2.out.keep hb15)
  replace T3 := Lib.hid (T3.out.keep hb15)
  replace T4 := Lib.hid (T4.out.keep hb15)
  replace S1 := Lib.hid (S1.out.below hb15)
  replace S2 := Lib.hid (S2.out.below hb15)
  replace Q := Lib.hid (Q.out.below hb15)
  replace R := Lib.hid (R.out.below hb15)
  replace U := Lib.hid (U.out.below hb15)
  replace HB := Lib.hid (HB.out.trans (hb15.mono HB.out.size))
  clear hb15
  have D := Lib.hid (hv16o)
  clear hv16o
  clear U
  have q3 := T3.out.lt
  have q4 := T4.out.lt
  go_wp2_with fail
  generalize ha18 : World.alloc (wc14) _ = wa17
  have hb19 : Below wc14.heap.size wc14 wa17 := by rw [← ha18]; exact (Below.refl _ _).alloc (Nat.le_refl _) _
  have T5 : Hid (Two wa17 (wc14.heap.size) (.bool dd) (.slice AD ADn ADc)) := Lib.hid (by rw [← ha18]; exact Two.made _ _ _)
  clear ha18
  replace T0 := Lib.hid (T0.out.keep hb19)
  replace T1 := Lib.hid (T1.out.keep hb19)
  replace T2 := Lib.hid (T2.out.keep hb19)
  replace T3 := Lib.hid (T3.out.keep hb19)
  replace T4 := Lib.hid (T4.out.keep hb19)
  replace S1 := Lib.hid (S1.out.below hb19)
  replace S2 := Lib.hid (S2.out.below hb19)
  replace Q := Lib.hid (Q.out.below hb19)
  replace R := Lib.hid (R.out.below hb19)
  replace D := Lib.hid (D.out.below hb19)
  replace HB := Lib.hid (HB.out.trans (hb19.mono HB.out.size))
  clear hb19
  replace T0 := Lib.hid T0.out.drew
  replace T1 := Lib.hid T1.out.drew
  replace T2 := Lib.hid T2.out.drew
  replace T3 := Lib.hid T3.out.drew
  replace T4 := Lib.hid T4.out.drew
  replace T5 := Lib.hid T5.out.drew
  replace S1 := Lib.hid S1.out.drew
  replace S2 := Lib.hid S2.out.drew
  replace Q := Lib.hid Q.out.drew
  replace R := Lib.hid R.out.drew
  replace D := Lib.hid D.out.drew
  replace HB := Lib.hid (below_drewN HB.out 1)
  have T5a := T5.out.c0
  have T5b := T5.out.c1
  have T1a := T1.out.c0
  have T1b := T1.out.c1
  go_region_held3 (fun w' => w'.cell? ⟨wc14.heap.size, 0, none⟩ = some (.bool dd) ∧ w'.cell? ⟨wc14.heap.size, 1, none⟩ = some (.slice AD ADn ADc) ∧ w'.cell? ⟨w.heap.size + 1, 0, none⟩ = some (.bool g2) ∧ w'.cell? ⟨w.heap.size + 1, 1, none⟩ = some (.slice A2 n2 c2))
    ((first | (refine ⟨?_, ?_, ?_, ?_⟩ <;> (with_reducible assumption))))
    (first
     | (go_at_call 26; with_reducible refine (iabs_rd S2.out).mono ?_; rintro e wx ⟨⟨ux, rfl, hvx⟩, hbx⟩; obtain ⟨AX, AXn, AXc, rfl, hvy⟩ := hvx.open_; obtain ⟨dx, dxh⟩ : ∃ dx, decide (((z2.natAbs : Nat) : Int) < 0) = dx := ⟨_, rfl⟩; rw [dxh] at hvy ⊢; clear hvx dxh
        replace T0 := Lib.hid (T0.out.keep hbx)
        replace T1 := Lib.hid (T1.out.keep hbx)
        replace T2 := Lib.hid (T2.out.keep hbx)
        replace T3 := Lib.hid (T3.out.keep hbx)
        replace T4 := Lib.hid (T4.out.keep hbx)
        replace T5 := Lib.hid (T5.out.keep hbx)
        replace T5a := T5.out.c0
        replace T5b := T5.out.c1
        replace T1a := T1.out.c0
        replace T1b := T1.out.c1
        replace S1 := Lib.hid (S1.out.below hbx)
        replace S2 := Lib.hid (S2.out.below hbx)
        replace Q := Lib.hid (Q.out.below hbx)
        replace R := Lib.hid (R.out.below hbx)
        replace D := Lib.hid (D.out.below hbx)
        try replace X := Lib.hid (X.out.below hbx)
        replace HB := Lib.hid (HB.out.trans (hbx.mono HB.out.size))
        have X := Lib.hid hvy
        clear hvy
        clear hbx)
     | (go_at_call 25; with_reducible refine (icmp_is (D.out.rds ZR.out.abs.two) (X.out.rds Z2.out.abs) HC.out).mono ?_; rintro e wx ⟨rfl, hbx⟩
        replace T0 := Lib.hid (T0.out.keep hbx)
        replace T1 := Lib.hid (T1.out.keep hbx)
        replace T2 := Lib.hid (T2.out.keep hbx)
        replace T3 := Lib.hid (T3.out.keep hbx)
        replace T4 := Lib.hid (T4.out.keep hbx)
        replace T5 := Lib.hid (T5.out.keep hbx)
        replace T5a := T5.out.c0
        replace T5b := T5.out.c1
        replace T1a := T1.out.c0
        replace T1b := T1.out.c1
        replace S1 := Lib.hid (S1.out.below hbx)
        replace S2 := Lib.hid (S2.out.below hbx)
        replace Q := Lib.hid (Q.out.below hbx)
        replace R := Lib.hid (R.out.below hbx)
        replace D := Lib.hid (D.out.below hbx)
        try replace X := Lib.hid (X.out.below hbx)
        replace HB := Lib.hid (HB.out.trans (hbx.mono HB.out.size))
        clear hbx))
  all_goals
    rename_i hH
    clear hH
    clear X
    clear T5a T5b T1a T1b
    have T3l := T3.out.lt
    have T3a := T3.out.c0
    have T3b := T3.out.c1
    have T3f := T3.out.fz 0
    have T3g := T3.out.fz 1
    go_wp2_with fail
    have HC20 := isodd_rd (Q.out.rds ZQ.out) HO.out
    refine (HC20).mono ?_
    rintro e wc21 ⟨rfl, hb22⟩
    clear HC20
    clear T3l T3a T3b T3f T3g
    replace T0 := Lib.hid (T0.out.keep hb22)
    replace T1 := Lib.hid (T1.out.keep hb22)
    replace T2 := Lib.hid (T2.out.keep hb22)
    replace T3 := Lib.hid (T3.out.keep hb22)
    replace T4 := Lib.hid (T4.out.keep hb22)
    replace T5 := Lib.hid (T5.out.keep hb22)
    replace S1 := Lib.hid (S1.out.below hb22)
    replace S2 := Lib.hid (S2.out.below hb22)
    replace Q := Lib.hid (Q.out.below hb22)
    replace R := Lib.hid (R.out.below hb22)
    replace D := Lib.hid (D.out.below hb22)
    replace HB := Lib.hid (HB.out.trans (hb22.mono HB.out.size))
    clear hb22
    have T3a := T3.out.c0
    have T3b := T3.out.c1
    have T3f := T3.out.fz 0
    have T3g := T3.out.fz 1
    go_wp2_with fail
    clear T3a T3b T3f T3g
    have T3da := T3.out.c0
    have T3db := T3.out.c1
    have T3df := T3.out.fz 0
    have T3dg := T3.out.fz 1
    replace T0 := Lib.hid T0.out.drew
    replace T1 := Lib.hid T1.out.drew
    replace T2 := Lib.hid T2.out.drew
    replace T3 := Lib.hid T3.out.drew
    replace T4 := Lib.hid T4.out.drew
    replace T5 := Lib.hid T5.out.drew
    replace S1 := Lib.hid S1.out.drew
    replace S2 := Lib.hid S2.out.drew
    replace Q := Lib.hid Q.out.drew
    replace R := Lib.hid R.out.drew
    replace D := Lib.hid D.out.drew
    replace HB := Lib.hid (below_drewN HB.out 1)
    have T3a := T3.out.c0
    have T3b := T3.out.c1
    have T3f := T3.out.fz 0
    have T3g := T3.out.fz 1
    go_region_with (first
     | (go_at_call 31; with_reducible refine (iof_calls 1 (by decide) (by decide) _).mono ?_; rintro e wx ⟨⟨ux, rfl, hvx⟩, hbx⟩; obtain ⟨AE, AEn, AEc, rfl, hvy⟩ := hvx.open_; rw [show decide ((1 : Int) < 0) = false from by decide] at hvy ⊢; clear hvx
        replace T0 := Lib.hid (T0.out.keep hbx)
        replace T1 := Lib.hid (T1.out.keep hbx)
        replace T2 := Lib.hid (T2.out.keep hbx)
        replace T3 := Lib.hid (T3.out.keep hbx)
        replace T4 := Lib.hid (T4.out.keep hbx)
        replace T5 := Lib.hid (T5.out.keep hbx)
        replace T3a := T3.out.c0
        replace T3b := T3.out.c1
        replace T3f := T3.out.fz 0
        replace T3g := T3.out.fz 1
        replace S1 := Lib.hid (S1.out.below hbx)
        replace S2 := Lib.hid (S2.out.below hbx)
        replace Q := Lib.hid (Q.out.below hbx)
        replace R := Lib.hid (R.out.below hbx)
        replace D := Lib.hid (D.out.below hbx)
        try replace E := Lib.hid (E.out.below hbx)
        replace HB := Lib.hid (HB.out.trans (hbx.mono HB.out.size))
        have E := Lib.hid hvy
        clear hvy
        clear hbx)
     | (go_at_call 28; with_reducible refine (iadd_rd (Q.out.rds ZQ.out) (E.out.rds (k := 1) (Sz.small (by decide))) (by have := HK.out.1; omega) (by decide)).mono ?_; rintro e wx ⟨⟨ux, rfl, hvx⟩, hbx⟩; obtain ⟨AY, AYn, AYc, rfl, hvy⟩ := hvx.open_; obtain ⟨dy, dyh⟩ : ∃ dy, decide ((q + 1) < 0) = dy := ⟨_, rfl⟩; rw [dyh] at hvy ⊢; clear hvx dyh
        replace T0 := Lib.hid (T0.out.keep hbx)
        replace T1 := Lib.hid (T1.out.keep hbx)
        replace T2 := Lib.hid (T2.out.keep hbx)
        replace T3 := Lib.hid (T3.out.keep hbx)
        replace T4 := Lib.hid (T4.out.keep hbx)
        replace T5 := Lib.hid (T5.out.keep hbx)
        replace T3a := T3.out.c0
        replace T3b := T3.out.c1
        replace T3f := T3.out.fz 0
        replace T3g := T3.out.fz 1
        replace S1 := Lib.hid (S1.out.below hbx)
        replace S2 := Lib.hid (S2.out.below hbx)
        replace Q := Lib.hid (Q.out.below hbx)
        replace R := Lib.hid (R.out.below hbx)
        replace D := Lib.hid (D.out.below hbx)
        try replace E := Lib.hid (E.out.below hbx)
        replace HB := Lib.hid (HB.out.trans (hbx.mono HB.out.size))
        have Y := Lib.hid hvy
        clear hvy
        clear hbx))
    all_goals
      clear T3da T3db T3df T3dg
      rw [HY.out] at Y
      clear E
      have T2a := T2.out.c0
      have T2b := T2.out.c1
      have T2f := T2.out.fz 0
      have T2g := T2.out.fz 1
      have T2l := T2.out.lt
      go_wp2_with fail
      clear T2a T2b T2f T2g T2l T3a T3b T3f T3g
      refine with_facts (fun  F => Two F (w.heap.size + 1 + 1) (.bool dy) (.slice AY AYn AYc) ∧ In F (.agg #[.bool dy, .slice AY AYn AYc]) y ∧ Below w.heap.size w F) ?fa ?fk
      case fa => refine ⟨?_, ?_, ?_⟩ <;> (repeat (first | with_reducible exact T2.out | with_reducible exact N1.out | with_reducible exact N2.out | with_reducible exact Y.out | with_reducible exact HB.out | with_reducible exact Bs.of N1.out | with_reducible exact Bs.of N2.out | with_reducible exact Bs.of T2.out | with_reducible exact Bs.of T0.out | with_reducible exact Bs.of T1.out | with_reducible exact Bs.of T3.out | with_reducible exact Bs.of T4.out | with_reducible exact Bs.of T5.out | with_reducible refine Two.st ?_ _ _ | (with_reducible refine Two.ot ?_ ?hne _ _; case hne => omega) | (with_reducible refine Two.mk' ?_ _ _; (first | with_reducible rfl | omega | (simp; done))) | with_reducible refine Two.alloc ?_ _ | with_reducible refine Bs.same ?_ _ _ _ _ | (with_reducible refine Bs.ot ?_ ?hne _ _; case hne => omega) | (with_reducible refine Bs.mk' ?_ _ _ _ _; (first | with_reducible rfl | omega | (simp; done))) | with_reducible refine Bs.al ?_ _ | with_reducible refine In.st ?_ ?_ _ _ | with_reducible refine In.al ?_ _ | with_reducible refine Rd.st ?_ ?_ _ _ | with_reducible refine Rd.al ?_ _ | (with_reducible refine Below.st ?_ ?hne _ _; case hne => omega) | with_reducible refine Below.al ?_ _))
      case fk =>
        intro F hF
        obtain ⟨T2p, Yp, HBp⟩ := hF
        replace T2 := Lib.hid T2p
        clear T2p
        replace Y := Lib.hid Yp
        clear Yp
        replace HB := Lib.hid HBp
        clear HBp
        have T2a := T2.out.c0
        have T2b := T2.out.c1
        have T2f := T2.out.fz 0
        have T2g := T2.out.fz 1
        exact bodyPost_ret (v := .tuple #[.agg #[.bool dy, .slice AY AYn AYc], .int .i64 0]) (by simp [results, Try.results35, go_sem, T2a, T2b]) rfl ⟨⟨_, rfl, Y.out⟩, HB.out⟩

set_option maxHeartbeats 4000000 in
set_option maxRecDepth 100000 in
theorem round_C {v1 v2 : Value} {z1 z2 : Int} {k1 k2 : Nat} {w : World} (h1 : Rd w v1 z1 k1) (h2 : Rd w v2 z2 k2) (q1 : k1 ≤ 100000) (q2 : k2 ≤ 100000) (hz : z2 ≠ 0) (hs : (z2.natAbs : Int) = ((Int.fmod z1 z2).natAbs : Int) * 2 ^ 1) (ho : ¬ Int.fdiv z1 z2 % 2 = 1) :
    Calls Try.prog 35 #[v1, v2] w fun e w' => (∃ r, e = .returned (.tuple #[r, .int .i64 0]) ∧ In w' r (rn z1 z2)) ∧ Below w.heap.size w w' := by
  obtain ⟨g1, A1, n1, c1, rfl, hs1⟩ := h1.open_
  obtain ⟨g2, A2, n2, c2, rfl, hs2⟩ := h2.open_
  have hbx := boxes3 w (.bool g1) (.slice A1 n1 c1) (.bool g2) (.slice A2 n2 c2)
  generalize hW : ((w.alloc (.cells #[.bool g1, .slice A1 n1 c1] 25)).alloc (.cells #[.bool g2, .slice A2 n2 c2] 25)).alloc (.cells #[.bool false, .slice none 0 0] 25)  = W at hbx
  obtain ⟨hbw, ht0, ht1, ht2⟩ := hbx
  have T0 := Lib.hid ht0
  have T1 := Lib.hid ht1
  have T2 := Lib.hid ht2
  have S1 := Lib.hid (hs1.below hbw)
  have S2 := Lib.hid (hs2.below hbw)
  have HB := Lib.hid hbw
  have HW := Lib.hid hW
  clear h1 h2 hs1 hs2 hbw ht0 ht1 ht2 hW
  have Z2 := Lib.hid S2.out.sz
  have HZ := Lib.hid hz
  have HK := Lib.hid (And.intro q1 q2)
  have ZR : Hid (Sz k2 (Int.fmod z1 z2)) := Lib.hid (Z2.out.fmod hz)
  have ZQ : Hid (Sz (k1 + 1) (Int.fdiv z1 z2)) := Lib.hid (S1.out.sz.fdiv hz)
  have HC : Hid (cmpZ (((Int.fmod z1 z2).natAbs : Int) * 2 ^ 1) (z2.natAbs : Int) = 0) := Lib.hid (cmpZ_zero' hs)
  have HO : Hid (decide (Int.fdiv z1 z2 % 2 = 1) = false) := Lib.hid (by simpa using ho)
  have HY : Hid (Int.fdiv z1 z2 = rn z1 z2) := Lib.hid (by unfold rn; rw [if_neg (by omega)])
  clear hs hz q1 q2 ho
  generalize rn z1 z2 = y at *
  obtain ⟨r, hr⟩ : ∃ r, Int.fmod z1 z2 = r := ⟨_, rfl⟩
  obtain ⟨q, hq⟩ : ∃ q, Int.fdiv z1 z2 = q := ⟨_, rfl⟩
  rw [hr] at HC ZR
  rw [hq] at HY ZQ HO
  have HR := Lib.hid hr
  have HQ := Lib.hid hq
  clear hr hq
  have T0a := T0.out.c0
  have T0b := T0.out.c1
  have T0f := T0.out.fz 0
  have T0g := T0.out.fz 1
  have T1a := T1.out.c0
  have T1b := T1.out.c1
  have T1f := T1.out.fz 0
  have T1g := T1.out.fz 1
  have T2a := T2.out.c0
  have T2b := T2.out.c1
  have T2f := T2.out.fz 0
  have T2g := T2.out.fz 1
  go_enter Try.func35, Try.ntmps35
  go_wp2_with fail
  rw [HW.out]
  have HC1 := floor_is S1.out S2.out HK.out.1 HK.out.2 HZ.out HQ.out HR.out
  refine (HC1).mono ?_
  rintro e wc2 ⟨⟨u, u', rfl, hv4, hu5⟩, hb3⟩
  clear HC1
  obtain ⟨AQ, AQn, AQc, rfl, hv4o⟩ := hv4.open_
  obtain ⟨dq, dqh⟩ : ∃ dq, decide (q < 0) = dq := ⟨_, rfl⟩
  rw [dqh] at hv4o ⊢
  clear hv4 dqh
  obtain ⟨AR, ARn, ARc, rfl, hu5o⟩ := hu5.open_
  obtain ⟨dr, drh⟩ : ∃ dr, decide (r < 0) = dr := ⟨_, rfl⟩
  rw [drh] at hu5o ⊢
  clear hu5 drh
  clear T0a T0b T0f T0g T1a T1b T1f T1g T2a T2b T2f T2g
  replace T0 := Lib.hid (T0.out.keep hb3)
  replace T1 := Lib.hid (T1.out.keep hb3)
  replace T2 := Lib.hid (T2.out.keep hb3)
  replace S1 := Lib.hid (S1.out.below hb3)
  replace S2 := Lib.hid (S2.out.below hb3)
  replace HB := Lib.hid (HB.out.trans (hb3.mono HB.out.size))
  clear hb3
  have Q := Lib.hid (hv4o)
  clear hv4o
  have R := Lib.hid (hu5o)
  clear hu5o
  have q2 := T2.out.lt
  have L2 := Lib.hid T2.out.lt
  have T1l := T1.out.lt
  have T1a := T1.out.c0
  have T1b := T1.out.c1
  have T1f := T1.out.fz 0
  have T1g := T1.out.fz 1
  go_wp2_with fail
  clear T1l T1a T1b T1f T1g
  generalize ha7 : World.alloc (World.alloc (wc2) _) _ = wa6
  have hb8 : Below wc2.heap.size wc2 wa6 := by rw [← ha7]; exact boxed2 _ _ _
  have T3 : Hid (Two wa6 (wc2.heap.size) (.bool dq) (.slice AQ AQn AQc)) := Lib.hid (by rw [← ha7]; exact Two.alloc (Two.made _ _ _) _)
  have T4 : Hid (Two wa6 (wc2.heap.size + 1) (.bool dr) (.slice AR ARn ARc)) := Lib.hid (by rw [← ha7]; exact Two.made2 _ _ _ _)
  clear ha7
  replace T0 := Lib.hid (T0.out.keep hb8)
  replace T1 := Lib.hid (T1.out.keep hb8)
  replace T2 := Lib.hid (T2.out.keep hb8)
  replace S1 := Lib.hid (S1.out.below hb8)
  replace S2 := Lib.hid (S2.out.below hb8)
  replace Q := Lib.hid (Q.out.below hb8)
  replace R := Lib.hid (R.out.below hb8)
  replace HB := Lib.hid (HB.out.trans (hb8.mono HB.out.size))
  clear hb8
  have HC9 := iabs_rd (R.out.rds ZR.out)
  refine (HC9).mono ?_
  rintro e wc10 ⟨⟨u, rfl, hv12⟩, hb11⟩
  clear HC9
  obtain ⟨AU, AUn, AUc, rfl, hv12o⟩ := hv12.open_
  obtain ⟨du, duh⟩ : ∃ du, decide (((r.natAbs : Nat) : Int) < 0) = du := ⟨_, rfl⟩
  rw [duh] at hv12o ⊢
  clear hv12 duh
  replace T0 := Lib.hid (T0.out.keep hb11)
  replace T1 := Lib.hid (T1.out.keep hb11)
  replace T2 := Lib.hid (T2.out.keep hb11)
  replace T3 := Lib.hid (T3.out.keep hb11)
  replace T4 := Lib.hid (T4.out.keep hb11)
  replace S1 := Lib.hid (S1.out.below hb11)
  replace S2 := Lib.hid (S2.out.below hb11)
  replace Q := Lib.hid (Q.out.below hb11)
  replace R := Lib.hid (R.out.below hb11)
  replace HB := Lib.hid (HB.out.trans (hb11.mono HB.out.size))
  clear hb11
  have U := Lib.hid (hv12o)
  clear hv12o
  go_wp2_with fail
  have HC13 := ishl1_rd (U.out.rds ZR.out.abs) (Nat.le_trans HK.out.2 (by decide))
  refine (HC13).mono ?_
  rintro e wc14 ⟨⟨u, rfl, hv16⟩, hb15⟩
  clear HC13
  obtain ⟨AD, ADn, ADc, rfl, hv16o⟩ := hv16.open_
  obtain ⟨dd, ddh⟩ : ∃ dd, decide ((((r.natAbs : Nat) : Int) * 2 ^ 1) < 0) = dd := ⟨_, rfl⟩
  rw [ddh] at hv16o ⊢
  clear hv16 ddh
  replace T0 := Lib.hid (T0.out.keep hb15)
  replace T1 := Lib.hid (T1.out.keep hb15)
  replace T2 := Lib.hid (T2.out.keep hb15)
  replace T3 := Lib.hid (T3.out.keep hb15)
  replace T4 := Lib.hid (T4.out.keep hb15)
  replace S1 := Lib.hid (S1.out.below hb15)
  replace S2 := Lib.hid (S2.out.below hb15)
  replace Q := Lib.hid (Q.out.below hb15)
  replace R := Lib.hid (R.out.below hb15)
  replace U := Lib.hid (U.out.below hb15)
  replace HB := Lib.hid (HB.out.trans (hb15.mono HB.out.size))
  clear hb15
  have D := Lib.hid (hv16o)
  clear hv16o
  clear U
  have q3 := T3.out.lt
  have q4 := T4.out.lt
  go_wp2_with fail
  generalize ha18 : World.alloc (wc14) _ = wa17
  have hb19 : Below wc14.heap.size wc14 wa17 := by rw [← ha18]; exact (Below.refl _ _).alloc (Nat.le_refl _) _
  have T5 : Hid (Two wa17 (wc14.heap.size) (.bool dd) (.slice AD ADn ADc)) := Lib.hid (by rw [← ha18]; exact Two.made _ _ _)
  clear ha18
  replace T0 := Lib.hid (T0.out.keep hb19)
  replace T1 := Lib.hid (T1.out.keep hb19)
  replace T2 := Lib.hid (T2.out.keep hb19)
  replace T3 := Lib.hid (T3.out.keep hb19)
  replace T4 := Lib.hid (T4.out.keep hb19)
  replace S1 := Lib.hid (S1.out.below hb19)
  replace S2 := Lib.hid (S2.out.below hb19)
  replace Q := Lib.hid (Q.out.below hb19)
  replace R := Lib.hid (R.out.below hb19)
  replace D := Lib.hid (D.out.below hb19)
  replace HB := Lib.hid (HB.out.trans (hb19.mono HB.out.size))
  clear hb19
  replace T0 := Lib.hid T0.out.drew
  replace T1 := Lib.hid T1.out.drew
  replace T2 := Lib.hid T2.out.drew
  replace T3 := Lib.hid T3.out.drew
  replace T4 := Lib.hid T4.out.drew
  replace T5 := Lib.hid T5.out.drew
  replace S1 := Lib.hid S1.out.drew
  replace S2 := Lib.hid S2.out.drew
  replace Q := Lib.hid Q.out.drew
  replace R := Lib.hid R.out.drew
  replace D := Lib.hid D.out.drew
  replace HB := Lib.hid (below_drewN HB.out 1)
  have T5a := T5.out.c0
  have T5b := T5.out.c1
  have T1a := T1.out.c0
  have T1b := T1.out.c1
  go_region_held3 (fun w' => w'.cell? ⟨wc14.heap.size, 0, none⟩ = some (.bool dd) ∧ w'.cell? ⟨wc14.heap.size, 1, none⟩ = some (.slice AD ADn ADc) ∧ w'.cell? ⟨w.heap.size + 1, 0, none⟩ = some (.bool g2) ∧ w'.cell? ⟨w.heap.size + 1, 1, none⟩ = some (.slice A2 n2 c2))
    ((first | (refine ⟨?_, ?_, ?_, ?_⟩ <;> (with_reducible assumption))))
    (first
     | (go_at_call 26; with_reducible refine (iabs_rd S2.out).mono ?_; rintro e wx ⟨⟨ux, rfl, hvx⟩, hbx⟩; obtain ⟨AX, AXn, AXc, rfl, hvy⟩ := hvx.open_; obtain ⟨dx, dxh⟩ : ∃ dx, decide (((z2.natAbs : Nat) : Int) < 0) = dx := ⟨_, rfl⟩; rw [dxh] at hvy ⊢; clear hvx dxh
        replace T0 := Lib.hid (T0.out.keep hbx)
        replace T1 := Lib.hid (T1.out.keep hbx)
        replace T2 := Lib.hid (T2.out.keep hbx)
        replace T3 := Lib.hid (T3.out.keep hbx)
        replace T4 := Lib.hid (T4.out.keep hbx)
        replace T5 := Lib.hid (T5.out.keep hbx)
        replace T5a := T5.out.c0
        replace T5b := T5.out.c1
        replace T1a := T1.out.c0
        replace T1b := T1.out.c1
        replace S1 := Lib.hid (S1.out.below hbx)
        replace S2 := Lib.hid (S2.out.below hbx)
        replace Q := Lib.hid (Q.out.below hbx)
        replace R := Lib.hid (R.out.below hbx)
        replace D := Lib.hid (D.out.below hbx)
        try replace X := Lib.hid (X.out.below hbx)
        replace HB := Lib.hid (HB.out.trans (hbx.mono HB.out.size))
        have X := Lib.hid hvy
        clear hvy
        clear hbx)
     | (go_at_call 25; with_reducible refine (icmp_is (D.out.rds ZR.out.abs.two) (X.out.rds Z2.out.abs) HC.out).mono ?_; rintro e wx ⟨rfl, hbx⟩
        replace T0 := Lib.hid (T0.out.keep hbx)
        replace T1 := Lib.hid (T1.out.keep hbx)
        replace T2 := Lib.hid (T2.out.keep hbx)
        replace T3 := Lib.hid (T3.out.keep hbx)
        replace T4 := Lib.hid (T4.out.keep hbx)
        replace T5 := Lib.hid (T5.out.keep hbx)
        replace T5a := T5.out.c0
        replace T5b := T5.out.c1
        replace T1a := T1.out.c0
        replace T1b := T1.out.c1
        replace S1 := Lib.hid (S1.out.below hbx)
        replace S2 := Lib.hid (S2.out.below hbx)
        replace Q := Lib.hid (Q.out.below hbx)
        replace R := Lib.hid (R.out.below hbx)
        replace D := Lib.hid (D.out.below hbx)
        try replace X := Lib.hid (X.out.below hbx)
        replace HB := Lib.hid (HB.out.trans (hbx.mono HB.out.size))
        clear hbx))
  all_goals
    rename_i hH
    clear hH
    clear X
    clear T5a T5b T1a T1b
    have T3l := T3.out.lt
    have T3a := T3.out.c0
    have T3b := T3.out.c1
    have T3f := T3.out.fz 0
    have T3g := T3.out.fz 1
    go_wp2_with fail
    have HC20 := isodd_rd (Q.out.rds ZQ.out) HO.out
    refine (HC20).mono ?_
    rintro e wc21 ⟨rfl, hb22⟩
    clear HC20
    clear T3l T3a T3b T3f T3g
    replace T0 := Lib.hid (T0.out.keep hb22)
    replace T1 := Lib.hid (T1.out.keep hb22)
    replace T2 := Lib.hid (T2.out.keep hb22)
    replace T3 := Lib.hid (T3.out.keep hb22)
    replace T4 := Lib.hid (T4.out.keep hb22)
    replace T5 := Lib.hid (T5.out.keep hb22)
    replace S1 := Lib.hid (S1.out.below hb22)
    replace S2 := Lib.hid (S2.out.below hb22)
    replace Q := Lib.hid (Q.out.below hb22)
    replace R := Lib.hid (R.out.below hb22)
    replace D := Lib.hid (D.out.below hb22)
    replace HB := Lib.hid (HB.out.trans (hb22.mono HB.out.size))
    clear hb22
    rw [HY.out] at Q
    have T2l := T2.out.lt
    have T2a := T2.out.c0
    have T2b := T2.out.c1
    have T2f := T2.out.fz 0
    have T2g := T2.out.fz 1
    have T3l := T3.out.lt
    have T3a := T3.out.c0
    have T3b := T3.out.c1
    have T3f := T3.out.fz 0
    have T3g := T3.out.fz 1
    go_wp2_with fail
    refine with_facts (fun  F => Two F (w.heap.size + 1 + 1) (.bool dq) (.slice AQ AQn AQc) ∧ In F (.agg #[.bool dq, .slice AQ AQn AQc]) y ∧ Below w.heap.size w F) ?fa ?fk
    case fa => refine ⟨?_, ?_, ?_⟩ <;> (repeat (first | with_reducible exact T2.out | with_reducible exact N1.out | with_reducible exact N2.out | with_reducible exact Q.out | with_reducible exact HB.out | with_reducible exact Bs.of N1.out | with_reducible exact Bs.of N2.out | with_reducible exact Bs.of T2.out | with_reducible exact Bs.of T0.out | with_reducible exact Bs.of T1.out | with_reducible exact Bs.of T3.out | with_reducible exact Bs.of T4.out | with_reducible exact Bs.of T5.out | with_reducible refine Two.st ?_ _ _ | (with_reducible refine Two.ot ?_ ?hne _ _; case hne => omega) | (with_reducible refine Two.mk' ?_ _ _; (first | with_reducible rfl | omega | (simp; done))) | with_reducible refine Two.alloc ?_ _ | with_reducible refine Bs.same ?_ _ _ _ _ | (with_reducible refine Bs.ot ?_ ?hne _ _; case hne => omega) | (with_reducible refine Bs.mk' ?_ _ _ _ _; (first | with_reducible rfl | omega | (simp; done))) | with_reducible refine Bs.al ?_ _ | with_reducible refine In.st ?_ ?_ _ _ | with_reducible refine In.al ?_ _ | with_reducible refine Rd.st ?_ ?_ _ _ | with_reducible refine Rd.al ?_ _ | (with_reducible refine Below.st ?_ ?hne _ _; case hne => omega) | with_reducible refine Below.al ?_ _))
    case fk =>
      intro F hF
      obtain ⟨T2p, Qp, HBp⟩ := hF
      replace T2 := Lib.hid T2p
      clear T2p
      replace Q := Lib.hid Qp
      clear Qp
      replace HB := Lib.hid HBp
      clear HBp
      have T2a := T2.out.c0
      have T2b := T2.out.c1
      have T2f := T2.out.fz 0
      have T2g := T2.out.fz 1
      exact bodyPost_ret (v := .tuple #[.agg #[.bool dq, .slice AQ AQn AQc], .int .i64 0]) (by simp [results, Try.results35, go_sem, T2a, T2b]) rfl ⟨⟨_, rfl, Q.out⟩, HB.out⟩

set_option maxHeartbeats 4000000 in
set_option maxRecDepth 100000 in
theorem round_D {v1 v2 : Value} {z1 z2 : Int} {k1 k2 : Nat} {w : World} (h1 : Rd w v1 z1 k1) (h2 : Rd w v2 z2 k2) (q1 : k1 ≤ 100000) (q2 : k2 ≤ 100000) (hz : z2 ≠ 0) (hs : ((Int.fmod z1 z2).natAbs : Int) * 2 ^ 1 < (z2.natAbs : Int)) :
    Calls Try.prog 35 #[v1, v2] w fun e w' => (∃ r, e = .returned (.tuple #[r, .int .i64 0]) ∧ In w' r (rn z1 z2)) ∧ Below w.heap.size w w' := by
  obtain ⟨g1, A1, n1, c1, rfl, hs1⟩ := h1.open_
  obtain ⟨g2, A2, n2, c2, rfl, hs2⟩ := h2.open_
  have hbx := boxes3 w (.bool g1) (.slice A1 n1 c1) (.bool g2) (.slice A2 n2 c2)
  generalize hW : ((w.alloc (.cells #[.bool g1, .slice A1 n1 c1] 25)).alloc (.cells #[.bool g2, .slice A2 n2 c2] 25)).alloc (.cells #[.bool false, .slice none 0 0] 25)  = W at hbx
  obtain ⟨hbw, ht0, ht1, ht2⟩ := hbx
  have T0 := Lib.hid ht0
  have T1 := Lib.hid ht1
  have T2 := Lib.hid ht2
  have S1 := Lib.hid (hs1.below hbw)
  have S2 := Lib.hid (hs2.below hbw)
  have HB := Lib.hid hbw
  have HW := Lib.hid hW
  clear h1 h2 hs1 hs2 hbw ht0 ht1 ht2 hW
  have Z2 := Lib.hid S2.out.sz
  have HZ := Lib.hid hz
  have HK := Lib.hid (And.intro q1 q2)
  have ZR : Hid (Sz k2 (Int.fmod z1 z2)) := Lib.hid (Z2.out.fmod hz)
  have ZQ : Hid (Sz (k1 + 1) (Int.fdiv z1 z2)) := Lib.hid (S1.out.sz.fdiv hz)
  have HC : Hid (cmpZ (((Int.fmod z1 z2).natAbs : Int) * 2 ^ 1) (z2.natAbs : Int) = (-1)) := Lib.hid (cmpZ_neg1 hs)
  have HY : Hid (Int.fdiv z1 z2 = rn z1 z2) := Lib.hid (by unfold rn; rw [if_neg (by omega)])
  clear hs hz q1 q2
  generalize rn z1 z2 = y at *
  obtain ⟨r, hr⟩ : ∃ r, Int.fmod z1 z2 = r := ⟨_, rfl⟩
  obtain ⟨q, hq⟩ : ∃ q, Int.fdiv z1 z2 = q := ⟨_, rfl⟩
  rw [hr] at HC ZR
  rw [hq] at HY ZQ
  have HR := Lib.hid hr
  have HQ := Lib.hid hq
  clear hr hq
  have T0a := T0.out.c0
  have T0b := T0.out.c1
  have T0f := T0.out.fz 0
  have T0g := T0.out.fz 1
  have T1a := T1.out.c0
  have T1b := T1.out.c1
  have T1f := T1.out.fz 0
  have T1g := T1.out.fz 1
  have T2a := T2.out.c0
  have T2b := T2.out.c1
  have T2f := T2.out.fz 0
  have T2g := T2.out.fz 1
  go_enter Try.func35, Try.ntmps35
  go_wp2_with fail
  rw [HW.out]
  have HC1 := floor_is S1.out S2.out HK.out.1 HK.out.2 HZ.out HQ.out HR.out
  refine (HC1).mono ?_
  rintro e wc2 ⟨⟨u, u', rfl, hv4, hu5⟩, hb3⟩
  clear HC1
  obtain ⟨AQ, AQn, AQc, rfl, hv4o⟩ := hv4.open_
  obtain ⟨dq, dqh⟩ : ∃ dq, decide (q < 0) = dq := ⟨_, rfl⟩
  rw [dqh] at hv4o ⊢
  clear hv4 dqh
  obtain ⟨AR, ARn, ARc, rfl, hu5o⟩ := hu5.open_
  obtain ⟨dr, drh⟩ : ∃ dr, decide (r < 0) = dr := ⟨_, rfl⟩
  rw [drh] at hu5o ⊢
  clear hu5 drh
  clear T0a T0b T0f T0g T1a T1b T1f T1g T2a T2b T2f T2g
  replace T0 := Lib.hid (T0.out.keep hb3)
  replace T1 := Lib.hid (T1.out.keep hb3)
  replace T2 := Lib.hid (T2.out.keep hb3)
  replace S1 := Lib.hid (S1.out.below hb3)
  replace S2 := Lib.hid (S2.out.below hb3)
  replace HB := Lib.hid (HB.out.trans (hb3.mono HB.out.size))
  clear hb3
  have Q := Lib.hid (hv4o)
  clear hv4o
  have R := Lib.hid (hu5o)
  clear hu5o
  have q2 := T2.out.lt
  have L2 := Lib.hid T2.out.lt
  have T1l := T1.out.lt
  have T1a := T1.out.c0
  have T1b := T1.out.c1
  have T1f := T1.out.fz 0
  have T1g := T1.out.fz 1
  go_wp2_with fail
  clear T1l T1a T1b T1f T1g
  generalize ha7 : World.alloc (World.alloc (wc2) _) _ = wa6
  have hb8 : Below wc2.heap.size wc2 wa6 := by rw [← ha7]; exact boxed2 _ _ _
  have T3 : Hid (Two wa6 (wc2.heap.size) (.bool dq) (.slice AQ AQn AQc)) := Lib.hid (by rw [← ha7]; exact Two.alloc (Two.made _ _ _) _)
  have T4 : Hid (Two wa6 (wc2.heap.size + 1) (.bool dr) (.slice AR ARn ARc)) := Lib.hid (by rw [← ha7]; exact Two.made2 _ _ _ _)
  clear ha7
  replace T0 := Lib.hid (T0.out.keep hb8)
  replace T1 := Lib.hid (T1.out.keep hb8)
  replace T2 := Lib.hid (T2.out.keep hb8)
  replace S1 := Lib.hid (S1.out.below hb8)
  replace S2 := Lib.hid (S2.out.below hb8)
  replace Q := Lib.hid (Q.out.below hb8)
  replace R := Lib.hid (R.out.below hb8)
  replace HB := Lib.hid (HB.out.trans (hb8.mono HB.out.size))
  clear hb8
  have HC9 := iabs_rd (R.out.rds ZR.out)
  refine (HC9).mono ?_
  rintro e wc10 ⟨⟨u, rfl, hv12⟩, hb11⟩
  clear HC9
  obtain ⟨AU, AUn, AUc, rfl, hv12o⟩ := hv12.open_
  obtain ⟨du, duh⟩ : ∃ du, decide (((r.natAbs : Nat) : Int) < 0) = du := ⟨_, rfl⟩
  rw [duh] at hv12o ⊢
  clear hv12 duh
  replace T0 := Lib.hid (T0.out.keep hb11)
  replace T1 := Lib.hid (T1.out.keep hb11)
  replace T2 := Lib.hid (T2.out.keep hb11)
  replace T3 := Lib.hid (T3.out.keep hb11)
  replace T4 := Lib.hid (T4.out.keep hb11)
  replace S1 := Lib.hid (S1.out.below hb11)
  replace S2 := Lib.hid (S2.out.below hb11)
  replace Q := Lib.hid (Q.out.below hb11)
  replace R := Lib.hid (R.out.below hb11)
  replace HB := Lib.hid (HB.out.trans (hb11.mono HB.out.size))
  clear hb11
  have U := Lib.hid (hv12o)
  clear hv12o
  go_wp2_with fail
  have HC13 := ishl1_rd (U.out.rds ZR.out.abs) (Nat.le_trans HK.out.2 (by decide))
  refine (HC13).mono ?_
  rintro e wc14 ⟨⟨u, rfl, hv16⟩, hb15⟩
  clear HC13
  obtain ⟨AD, ADn, ADc, rfl, hv16o⟩ := hv16.open_
  obtain ⟨dd, ddh⟩ : ∃ dd, decide ((((r.natAbs : Nat) : Int) * 2 ^ 1) < 0) = dd := ⟨_, rfl⟩
  rw [ddh] at hv16o ⊢
  clear hv16 ddh
  replace T0 := Lib.hid (T0.out.keep hb15)
  replace T1 := Lib.hid (T1.out.keep hb15)
  replace T2 := Lib.hid (T2.out.keep hb15)
  replace T3 := Lib.hid (T3.out.keep hb15)
  replace T4 := Lib.hid (T4.out.keep hb15)
  replace S1 := Lib.hid (S1.out.below hb15)
  replace S2 := Lib.hid (S2.out.below hb15)
  replace Q := Lib.hid (Q.out.below hb15)
  replace R := Lib.hid (R.out.below hb15)
  replace U := Lib.hid (U.out.below hb15)
  replace HB := Lib.hid (HB.out.trans (hb15.mono HB.out.size))
  clear hb15
  have D := Lib.hid (hv16o)
  clear hv16o
  clear U
  have q3 := T3.out.lt
  have q4 := T4.out.lt
  go_wp2_with fail
  generalize ha18 : World.alloc (wc14) _ = wa17
  have hb19 : Below wc14.heap.size wc14 wa17 := by rw [← ha18]; exact (Below.refl _ _).alloc (Nat.le_refl _) _
  have T5 : Hid (Two wa17 (wc14.heap.size) (.bool dd) (.slice AD ADn ADc)) := Lib.hid (by rw [← ha18]; exact Two.made _ _ _)
  clear ha18
  replace T0 := Lib.hid (T0.out.keep hb19)
  replace T1 := Lib.hid (T1.out.keep hb19)
  replace T2 := Lib.hid (T2.out.keep hb19)
  replace T3 := Lib.hid (T3.out.keep hb19)
  replace T4 := Lib.hid (T4.out.keep hb19)
  replace S1 := Lib.hid (S1.out.below hb19)
  replace S2 := Lib.hid (S2.out.below hb19)
  replace Q := Lib.hid (Q.out.below hb19)
  replace R := Lib.hid (R.out.below hb19)
  replace D := Lib.hid (D.out.below hb19)
  replace HB := Lib.hid (HB.out.trans (hb19.mono HB.out.size))
  clear hb19
  replace T0 := Lib.hid T0.out.drew
  replace T1 := Lib.hid T1.out.drew
  replace T2 := Lib.hid T2.out.drew
  replace T3 := Lib.hid T3.out.drew
  replace T4 := Lib.hid T4.out.drew
  replace T5 := Lib.hid T5.out.drew
  replace S1 := Lib.hid S1.out.drew
  replace S2 := Lib.hid S2.out.drew
  replace Q := Lib.hid Q.out.drew
  replace R := Lib.hid R.out.drew
  replace D := Lib.hid D.out.drew
  replace HB := Lib.hid (below_drewN HB.out 1)
  have T5a := T5.out.c0
  have T5b := T5.out.c1
  have T1a := T1.out.c0
  have T1b := T1.out.c1
  go_region_held3 (fun w' => w'.cell? ⟨wc14.heap.size, 0, none⟩ = some (.bool dd) ∧ w'.cell? ⟨wc14.heap.size, 1, none⟩ = some (.slice AD ADn ADc) ∧ w'.cell? ⟨w.heap.size + 1, 0, none⟩ = some (.bool g2) ∧ w'.cell? ⟨w.heap.size + 1, 1, none⟩ = some (.slice A2 n2 c2))
    ((first | (refine ⟨?_, ?_, ?_, ?_⟩ <;> (with_reducible assumption))))
    (first
     | (go_at_call 26; with_reducible refine (iabs_rd S2.out).mono ?_; rintro e wx ⟨⟨ux, rfl, hvx⟩, hbx⟩; obtain ⟨AX, AXn, AXc, rfl, hvy⟩ := hvx.open_; obtain ⟨dx, dxh⟩ : ∃ dx, decide (((z2.natAbs : Nat) : Int) < 0) = dx := ⟨_, rfl⟩; rw [dxh] at hvy ⊢; clear hvx dxh
        replace T0 := Lib.hid (T0.out.keep hbx)
        replace T1 := Lib.hid (T1.out.keep hbx)
        replace T2 := Lib.hid (T2.out.keep hbx)
        replace T3 := Lib.hid (T3.out.keep hbx)
        replace T4 := Lib.hid (T4.out.keep hbx)
        replace T5 := Lib.hid (T5.out.keep hbx)
        replace T5a := T5.out.c0
        replace T5b := T5.out.c1
        replace T1a := T1.out.c0
        replace T1b := T1.out.c1
        replace S1 := Lib.hid (S1.out.below hbx)
        replace S2 := Lib.hid (S2.out.below hbx)
        replace Q := Lib.hid (Q.out.below hbx)
        replace R := Lib.hid (R.out.below hbx)
        replace D := Lib.hid (D.out.below hbx)
        try replace X := Lib.hid (X.out.below hbx)
        replace HB := Lib.hid (HB.out.trans (hbx.mono HB.out.size))
        have X := Lib.hid hvy
        clear hvy
        clear hbx)
     | (go_at_call 25; with_reducible refine (icmp_is (D.out.rds ZR.out.abs.two) (X.out.rds Z2.out.abs) HC.out).mono ?_; rintro e wx ⟨rfl, hbx⟩
        replace T0 := Lib.hid (T0.out.keep hbx)
        replace T1 := Lib.hid (T1.out.keep hbx)
        replace T2 := Lib.hid (T2.out.keep hbx)
        replace T3 := Lib.hid (T3.out.keep hbx)
        replace T4 := Lib.hid (T4.out.keep hbx)
        replace T5 := Lib.hid (T5.out.keep hbx)
        replace T5a := T5.out.c0
        replace T5b := T5.out.c1
        replace T1a := T1.out.c0
        replace T1b := T1.out.c1
        replace S1 := Lib.hid (S1.out.below hbx)
        replace S2 := Lib.hid (S2.out.below hbx)
        replace Q := Lib.hid (Q.out.below hbx)
        replace R := Lib.hid (R.out.below hbx)
        replace D := Lib.hid (D.out.below hbx)
        try replace X := Lib.hid (X.out.below hbx)
        replace HB := Lib.hid (HB.out.trans (hbx.mono HB.out.size))
        clear hbx))
  all_goals
    rename_i hH
    clear hH
    clear X
    rw [HY.out] at Q
    clear T5a T5b T1a T1b
    have T2l := T2.out.lt
    have T2a := T2.out.c0
    have T2b := T2.out.c1
    have T2f := T2.out.fz 0
    have T2g := T2.out.fz 1
    have T3l := T3.out.lt
    have T3a := T3.out.c0
    have T3b := T3.out.c1
    have T3f := T3.out.fz 0
    have T3g := T3.out.fz 1
    go_wp2_with fail
    refine with_facts (fun  F => Two F (w.heap.size + 1 + 1) (.bool dq) (.slice AQ AQn AQc) ∧ In F (.agg #[.bool dq, .slice AQ AQn AQc]) y ∧ Below w.heap.size w F) ?fa ?fk
    case fa => refine ⟨?_, ?_, ?_⟩ <;> (repeat (first | with_reducible exact T2.out | with_reducible exact N1.out | with_reducible exact N2.out | with_reducible exact Q.out | with_reducible exact HB.out | with_reducible exact Bs.of N1.out | with_reducible exact Bs.of N2.out | with_reducible exact Bs.of T2.out | with_reducible exact Bs.of T0.out | with_reducible exact Bs.of T1.out | with_reducible exact Bs.of T3.out | with_reducible exact Bs.of T4.out | with_reducible exact Bs.of T5.out | with_reducible refine Two.st ?_ _ _ | (with_reducible refine Two.ot ?_ ?hne _ _; case hne => omega) | (with_reducible refine Two.mk' ?_ _ _; (first | with_reducible rfl | omega | (simp; done))) | with_reducible refine Two.alloc ?_ _ | with_reducible refine Bs.same ?_ _ _ _ _ | (with_reducible refine Bs.ot ?_ ?hne _ _; case hne => omega) | (with_reducible refine Bs.mk' ?_ _ _ _ _; (first | with_reducible rfl | omega | (simp; done))) | with_reducible refine Bs.al ?_ _ | with_reducible refine In.st ?_ ?_ _ _ | with_reducible refine In.al ?_ _ | with_reducible refine Rd.st ?_ ?_ _ _ | with_reducible refine Rd.al ?_ _ | (with_reducible refine Below.st ?_ ?hne _ _; case hne => omega) | with_reducible refine Below.al ?_ _))
    case fk =>
      intro F hF
      obtain ⟨T2p, Qp, HBp⟩ := hF
      replace T2 := Lib.hid T2p
      clear T2p
      replace Q := Lib.hid Qp
      clear Qp
      replace HB := Lib.hid HBp
      clear HBp
      have T2a := T2.out.c0
      have T2b := T2.out.c1
      have T2f := T2.out.fz 0
      have T2g := T2.out.fz 1
      exact bodyPost_ret (v := .tuple #[.agg #[.bool dq, .slice AQ AQn AQc], .int .i64 0]) (by simp [results, Try.results35, go_sem, T2a, T2b]) rfl ⟨⟨_, rfl, Q.out⟩, HB.out⟩

theorem round_rd {v1 v2 : Value} {z1 z2 : Int} {k1 k2 : Nat} {w : World} (h1 : Rd w v1 z1 k1) (h2 : Rd w v2 z2 k2) (q1 : k1 ≤ 100000) (q2 : k2 ≤ 100000) (hz : z2 ≠ 0) :
    Calls Try.prog 35 #[v1, v2] w fun e w' => (∃ r, e = .returned (.tuple #[r, .int .i64 0]) ∧ In w' r (rn z1 z2)) ∧ Below w.heap.size w w' := by
  rcases Int.lt_trichotomy (z2.natAbs : Int) (((Int.fmod z1 z2).natAbs : Int) * 2 ^ 1) with hs | hs | hs
  · exact round_A h1 h2 q1 q2 hz hs
  · by_cases ho : Int.fdiv z1 z2 % 2 = 1
    · exact round_B h1 h2 q1 q2 hz hs ho
    · exact round_C h1 h2 q1 q2 hz hs ho
  · exact round_D h1 h2 q1 q2 hz hs

end Go.Proofs.Ytgmooidagkbheaa
