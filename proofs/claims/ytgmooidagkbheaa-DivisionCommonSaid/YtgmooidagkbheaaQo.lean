/-
  division.Quo: the quotient rounded toward zero and the remainder.
-/
import Derived.Test.YtgmooidagkbheaaIn3
import Derived.RegionTactic
import Derived.BigRegion
namespace Go.Proofs.Ytgmooidagkbheaa
open Go.RowKit Go.Proofs.YtgmooidagkbheaaW.PrintWords
set_option linter.unusedVariables false

theorem iz_zero (g : Bool) (l : List Nat) : iz g l = 0 ↔ val l = 0 := by
  unfold iz
  cases g <;> simp
theorem quo_iz (g g' : Bool) (l l' : List Nat) : iz (!(g == g')) (dg (val l / val l')) = Int.tdiv (iz g l) (iz g' l') := by
  unfold iz
  rw [val_dg]
  cases g <;> cases g' <;> simp [Int.neg_tdiv, Int.tdiv_neg]
theorem rem_iz (g g' : Bool) (l l' : List Nat) : iz g (dg (val l % val l')) = Int.tmod (iz g l) (iz g' l') := by
  unfold iz
  rw [val_dg]
  have e : Int.tmod (val l : Int) (val l' : Int) = (val l : Int) % (val l' : Int) := Int.tmod_eq_emod_of_nonneg (by omega)
  cases g <;> cases g' <;> simp [Int.neg_tmod, Int.tmod_neg, e]
theorem in_zero (w : World) : In w (.agg #[.bool false, .slice none 0 0]) 0 := by
  refine ⟨?_⟩
  have : dg (Int.natAbs 0) = [] := dg_zero
  rw [this]
  exact ⟨_, rfl, Nv.nil w⟩

set_option maxHeartbeats 2000000 in
set_option maxRecDepth 100000 in
theorem quo_zero (v1 v2 : Value) (g1 g2 : Bool) (l1 l2 : List Nat) (w : World) (h1 : Iv w v1 g1 l1) (h2 : Iv w v2 g2 l2) (hz : iz g2 l2 = 0) :
    Calls Try.prog 13 #[v1, v2] w fun e w' => e = .returned (.tuple #[.agg #[.bool false, .slice none 0 0], .agg #[.bool false, .slice none 0 0], .int .i64 2]) ∧ Below w.heap.size w w' := by
  obtain ⟨A1, c1, rfl, a1, b1, hs1⟩ := h1.open_
  obtain ⟨A2, c2, rfl, a2, b2, hs2⟩ := h2.open_
  have hbx := boxes4 w (.bool g1) (.slice A1 l1.length c1) (.bool g2) (.slice A2 l2.length c2)
  generalize hW : ((((w.alloc (.cells #[.bool g1, .slice A1 l1.length c1] 25)).alloc (.cells #[.bool g2, .slice A2 l2.length c2] 25)).alloc (.cells #[.bool false, .slice none 0 0] 25)).alloc (.cells #[.bool false, .slice none 0 0] 25))  = W at hbx
  obtain ⟨hbw, ht0, ht1, ht2, ht3⟩ := hbx
  have T0 := Lib.hid ht0
  have T1 := Lib.hid ht1
  have T2 := Lib.hid ht2
  have T3 := Lib.hid ht3
  have S1 := Lib.hid (hs1.below hbw)
  have S2 := Lib.hid (hs2.below hbw)
  have HB := Lib.hid hbw
  have HW := Lib.hid hW
  clear h1 h2 hs1 hs2 a1 a2 b1 b2 hbw ht0 ht1 ht2 ht3 hW
  have hI := iszero_calls _ g2 l2 W (Iv.of S2.out)
  rw [show (iz g2 l2 == 0) = true from by simp [hz]] at hI
  have HI := Lib.hid hI
  clear hI hz
  have T0a := T0.out.c0
  have T0b := T0.out.c1
  have T0f := T0.out.fz 0
  have T0g := T0.out.fz 1
  have T1a := T1.out.c0
  have T1b := T1.out.c1
  have T1f := T1.out.fz 0
  have T1g := T1.out.fz 1
  have T2a := T2.out.c0
  have T2b := T2.out.c1
  have T2f := T2.out.fz 0
  have T2g := T2.out.fz 1
  have T3a := T3.out.c0
  have T3b := T3.out.c1
  have T3f := T3.out.fz 0
  have T3g := T3.out.fz 1
  go_enter Try.func13, Try.ntmps13
  go_wp2_with fail
  rw [HW.out]
  refine (HI.out).mono ?_
  rintro e w1 ⟨rfl, hb1⟩
  clear HI
  clear T0a T0b T0f T0g T1a T1b T1f T1g T2a T2b T2f T2g T3a T3b T3f T3g
  replace T0 := Lib.hid (T0.out.keep hb1)
  replace T1 := Lib.hid (T1.out.keep hb1)
  replace T2 := Lib.hid (T2.out.keep hb1)
  replace T3 := Lib.hid (T3.out.keep hb1)
  replace S1 := Lib.hid (S1.out.below hb1)
  replace S2 := Lib.hid (S2.out.below hb1)
  replace HB := Lib.hid (HB.out.trans (hb1.mono HB.out.size))
  clear hb1
  have T0a := T0.out.c0
  have T0b := T0.out.c1
  have T0f := T0.out.fz 0
  have T0g := T0.out.fz 1
  have T1a := T1.out.c0
  have T1b := T1.out.c1
  have T1f := T1.out.fz 0
  have T1g := T1.out.fz 1
  have T2a := T2.out.c0
  have T2b := T2.out.c1
  have T2f := T2.out.fz 0
  have T2g := T2.out.fz 1
  have T3a := T3.out.c0
  have T3b := T3.out.c1
  have T3f := T3.out.fz 0
  have T3g := T3.out.fz 1
  go_wp2_with fail
  go_region
  all_goals
    have U2 := T2.out.store (.bool false) (.slice none 0 0)
    have U3 := T3.out.other2 T2.out (.bool false) (.slice none 0 0) (by omega)
    have X2 := U2.other2 U3 (.bool false) (.slice none 0 0) (by omega)
    have X3 := U3.store (.bool false) (.slice none 0 0)
    have q1 := X2.drew.c0
    have q2 := X2.drew.c1
    have q3 := X3.drew.c0
    have q4 := X3.drew.c1
    have HBX := Below.two (Below.two HB.out (by omega : w.heap.size ≤ w.heap.size + 1 + 1) (.bool false) (.slice none 0 0)) (by omega : w.heap.size ≤ w.heap.size + 1 + 1 + 1) (.bool false) (.slice none 0 0)
    have HBX2 := Lib.hid (below_drewN HBX 1)
    clear U2 U3 X2 X3 HBX
    go_wp2_with fail
    exact bodyPost_ret (v := .tuple #[.agg #[.bool false, .slice none 0 0], .agg #[.bool false, .slice none 0 0], .int .i64 2]) (by simp [results, Try.results13, go_sem, q1, q2, q3, q4]) rfl ⟨rfl, HBX2.out⟩

set_option maxHeartbeats 4000000 in
set_option maxRecDepth 100000 in
theorem quo_calls (v1 v2 : Value) (g1 g2 : Bool) (l1 l2 : List Nat) (w : World) (h1 : Iv w v1 g1 l1) (h2 : Iv w v2 g2 l2) (k1 : l1.length ≤ 100000) (k2 : l2.length ≤ 100000) (hz : iz g2 l2 ≠ 0) :
    Calls Try.prog 13 #[v1, v2] w fun e w' => (∃ q r, e = .returned (.tuple #[q, r, .int .i64 0]) ∧ In w' q (Int.tdiv (iz g1 l1) (iz g2 l2)) ∧ In w' r (Int.tmod (iz g1 l1) (iz g2 l2))) ∧ Below w.heap.size w w' := by
  obtain ⟨A1, c1, rfl, a1, b1, hs1⟩ := h1.open_
  obtain ⟨A2, c2, rfl, a2, b2, hs2⟩ := h2.open_
  have hbx := boxes4 w (.bool g1) (.slice A1 l1.length c1) (.bool g2) (.slice A2 l2.length c2)
  generalize hW : ((((w.alloc (.cells #[.bool g1, .slice A1 l1.length c1] 25)).alloc (.cells #[.bool g2, .slice A2 l2.length c2] 25)).alloc (.cells #[.bool false, .slice none 0 0] 25)).alloc (.cells #[.bool false, .slice none 0 0] 25))  = W at hbx
  obtain ⟨hbw, ht0, ht1, ht2, ht3⟩ := hbx
  have T0 := Lib.hid ht0
  have T1 := Lib.hid ht1
  have T2 := Lib.hid ht2
  have T3 := Lib.hid ht3
  have S1 := Lib.hid (hs1.below hbw)
  have S2 := Lib.hid (hs2.below hbw)
  have HB := Lib.hid hbw
  have HW := Lib.hid hW
  clear h1 h2 hs1 hs2 a1 a2 b1 b2 hbw ht0 ht1 ht2 ht3 hW
  have hI := iszero_calls _ g2 l2 W (Iv.of S2.out)
  rw [show (iz g2 l2 == 0) = false from by simp [hz]] at hI
  have HI := Lib.hid hI
  have hz2 : val l2 ≠ 0 := fun h => hz ((iz_zero g2 l2).2 h)
  have HZ := Lib.hid hz2
  have HK1 := Lib.hid k1
  have HK2 := Lib.hid k2
  clear hI hz hz2 k1 k2
  have EQ := Lib.hid (quo_iz g1 g2 l1 l2)
  have ER := Lib.hid (rem_iz g1 g2 l1 l2)
  generalize Int.tdiv (iz g1 l1) (iz g2 l2) = zq at *
  generalize Int.tmod (iz g1 l1) (iz g2 l2) = zr at *
  have T0a := T0.out.c0
  have T0b := T0.out.c1
  have T0f := T0.out.fz 0
  have T0g := T0.out.fz 1
  have T1a := T1.out.c0
  have T1b := T1.out.c1
  have T1f := T1.out.fz 0
  have T1g := T1.out.fz 1
  have T2a := T2.out.c0
  have T2b := T2.out.c1
  have T2f := T2.out.fz 0
  have T2g := T2.out.fz 1
  have T3a := T3.out.c0
  have T3b := T3.out.c1
  have T3f := T3.out.fz 0
  have T3g := T3.out.fz 1
  go_enter Try.func13, Try.ntmps13
  go_wp2_with fail
  rw [HW.out]
  refine (HI.out).mono ?_
  rintro e w1 ⟨rfl, hb1⟩
  clear HI
  clear T0a T0b T0f T0g T1a T1b T1f T1g T2a T2b T2f T2g T3a T3b T3f T3g
  replace T0 := Lib.hid (T0.out.keep hb1)
  replace T1 := Lib.hid (T1.out.keep hb1)
  replace T2 := Lib.hid (T2.out.keep hb1)
  replace T3 := Lib.hid (T3.out.keep hb1)
  replace S1 := Lib.hid (S1.out.below hb1)
  replace S2 := Lib.hid (S2.out.below hb1)
  replace HB := Lib.hid (HB.out.trans (hb1.mono HB.out.size))
  clear hb1
  have HD := Lib.hid (divide_calls _ _ l1 l2 w1 S1.out S2.out HK1.out HK2.out HZ.out)
  have T0a := T0.out.c0
  have T0b := T0.out.c1
  have T0f := T0.out.fz 0
  have T0g := T0.out.fz 1
  have T1a := T1.out.c0
  have T1b := T1.out.c1
  have T1f := T1.out.fz 0
  have T1g := T1.out.fz 1
  have T2a := T2.out.c0
  have T2b := T2.out.c1
  have T2f := T2.out.fz 0
  have T2g := T2.out.fz 1
  have T3a := T3.out.c0
  have T3b := T3.out.c1
  have T3f := T3.out.fz 0
  have T3g := T3.out.fz 1
  go_wp2_with fail
  refine (HD.out).mono ?_
  rintro e w2 ⟨⟨vq, vr, rfl, hq, hr⟩, hb2⟩
  obtain ⟨A3, c3, rfl, _, _, hq2⟩ := hq.open_
  obtain ⟨A4, c4, rfl, _, _, hr2⟩ := hr.open_
  clear HD hq hr
  clear T0a T0b T0f T0g T1a T1b T1f T1g T2a T2b T2f T2g T3a T3b T3f T3g
  replace T0 := Lib.hid (T0.out.keep hb2)
  replace T1 := Lib.hid (T1.out.keep hb2)
  replace T2 := Lib.hid (T2.out.keep hb2)
  replace T3 := Lib.hid (T3.out.keep hb2)
  replace S1 := Lib.hid (S1.out.below hb2)
  replace S2 := Lib.hid (S2.out.below hb2)
  replace HB := Lib.hid (HB.out.trans (hb2.mono HB.out.size))
  clear hb2
  have Q1 := Lib.hid hq2
  have Q2 := Lib.hid hr2
  clear hq2 hr2
  have T0a := T0.out.c0
  have T0b := T0.out.c1
  have T0f := T0.out.fz 0
  have T0g := T0.out.fz 1
  have T1a := T1.out.c0
  have T1b := T1.out.c1
  have T1f := T1.out.fz 0
  have T1g := T1.out.fz 1
  have T2a := T2.out.c0
  have T2b := T2.out.c1
  have T2f := T2.out.fz 0
  have T2g := T2.out.fz 1
  have T3a := T3.out.c0
  have T3b := T3.out.c1
  have T3f := T3.out.fz 0
  have T3g := T3.out.fz 1
  go_wp2_with fail
  clear T0a T0b T0f T0g T1a T1b T1f T1g T2a T2b T2f T2g T3a T3b T3f T3g
  replace T0 := Lib.hid T0.out.drew
  replace T1 := Lib.hid T1.out.drew
  replace T2 := Lib.hid T2.out.drew
  replace T3 := Lib.hid T3.out.drew
  replace S1 := Lib.hid S1.out.drew
  replace S2 := Lib.hid S2.out.drew
  replace Q1 := Lib.hid Q1.out.drew
  replace Q2 := Lib.hid Q2.out.drew
  replace HB := Lib.hid (below_drewN HB.out 1)
  obtain ⟨gg, hgg⟩ : ∃ gg, (!(g1 == g2)) = gg := ⟨_, rfl⟩
  have HF1 := Lib.hid (from_calls gg _ _ w2.drew Q1.out)
  rw [hgg] at EQ
  rw [EQ.out] at HF1
  have HF2 := Lib.hid (fun w' (h : Below w2.drew.heap.size w2.drew w') => from_calls g1 _ _ w' (Q2.out.below h))
  rw [ER.out] at HF2
  generalize (dg (val l1 / val l2)).length = nq at *
  generalize (dg (val l1 % val l2)).length = nr at *
  have T0a := T0.out.c0
  have T0b := T0.out.c1
  have T0f := T0.out.fz 0
  have T0g := T0.out.fz 1
  have T1a := T1.out.c0
  have T1b := T1.out.c1
  have T1f := T1.out.fz 0
  have T1g := T1.out.fz 1
  have T2a := T2.out.c0
  have T2b := T2.out.c1
  have T2f := T2.out.fz 0
  have T2g := T2.out.fz 1
  have T3a := T3.out.c0
  have T3b := T3.out.c1
  have T3f := T3.out.fz 0
  have T3g := T3.out.fz 1
  go_region_held3 (fun w' => w'.cell? ⟨w.heap.size, 0, none⟩ = some (.bool g1) ∧ w'.cell? ⟨w.heap.size + 1, 0, none⟩ = some (.bool g2))
    ((first | (refine ⟨?_, ?_⟩ <;> (with_reducible assumption)) | (refine ⟨?_, ?_⟩ <;> (rw [two_cell _ _ _ _ _ _ (by omega)]; with_reducible assumption)) | (refine ⟨?_, ?_⟩ <;> (rw [two_cell _ _ _ _ _ _ (by omega), two_cell _ _ _ _ _ _ (by omega)]; with_reducible assumption))))
    (first
     | (go_at_call 50; with_reducible refine (HF1.out).mono ?_; rintro e w3 ⟨⟨u1, rfl, hv1⟩, hb3⟩; obtain ⟨A5, n5, c5, rfl, hv2⟩ := hv1.open_
        have T0x := Lib.hid (T0.out.keep hb3)
        have T1x := Lib.hid (T1.out.keep hb3)
        have T2x := Lib.hid (T2.out.keep hb3)
        have T3x := Lib.hid (T3.out.keep hb3)
        have T0xa := T0x.out.c0
        have T0xb := T0x.out.c1
        have T0xf := T0x.out.fz 0
        have T0xg := T0x.out.fz 1
        have T1xa := T1x.out.c0
        have T1xb := T1x.out.c1
        have T1xf := T1x.out.fz 0
        have T1xg := T1x.out.fz 1
        have T2xa := T2x.out.c0
        have T2xb := T2x.out.c1
        have T2xf := T2x.out.fz 0
        have T2xg := T2x.out.fz 1
        have T3xa := T3x.out.c0
        have T3xb := T3x.out.c1
        have T3xf := T3x.out.fz 0
        have T3xg := T3x.out.fz 1
        have HV1 := Lib.hid hv2
        have HBa := Lib.hid hb3)
     | (go_at_call 50; with_reducible refine (HF2.out _ HBa.out).mono ?_; rintro e w4 ⟨⟨u2, rfl, hv3⟩, hb4⟩; obtain ⟨A6, n6, c6, rfl, hv4⟩ := hv3.open_
        have T0y := Lib.hid (T0x.out.keep hb4)
        have T1y := Lib.hid (T1x.out.keep hb4)
        have T2y := Lib.hid (T2x.out.keep hb4)
        have T3y := Lib.hid (T3x.out.keep hb4)
        have T0ya := T0y.out.c0
        have T0yb := T0y.out.c1
        have T0yf := T0y.out.fz 0
        have T0yg := T0y.out.fz 1
        have T1ya := T1y.out.c0
        have T1yb := T1y.out.c1
        have T1yf := T1y.out.fz 0
        have T1yg := T1y.out.fz 1
        have T2ya := T2y.out.c0
        have T2yb := T2y.out.c1
        have T2yf := T2y.out.fz 0
        have T2yg := T2y.out.fz 1
        have T3ya := T3y.out.c0
        have T3yb := T3y.out.c1
        have T3yf := T3y.out.fz 0
        have T3yg := T3y.out.fz 1
        have HV2 := Lib.hid hv4
        have HV1y := Lib.hid (HV1.out.below hb4)
        have HBb := Lib.hid (HB.out.trans ((HBa.out.trans (hb4.mono HBa.out.size)).mono HB.out.size))))
  all_goals
    rename_i hH
    clear hH T0x T1x T2x T3x T0y T1y HV1 HBa T0xa T0xb T0xf T0xg T0ya T0yb T0yf T0yg T1xa T1xb T1xf T1xg T1ya T1yb T1yf T1yg T2xa T2xb T2xf T2xg T2ya T2yb T2yf T2yg T3xa T3xb T3xf T3xg T3ya T3yb T3yf T3yg T0a T0b T0f T0g T1a T1b T1f T1g T2a T2b T2f T2g T3a T3b T3f T3g
    replace HB := HBb
    clear HBb
    generalize hs2 : World.setCell (World.setCell w4 _ _) _ _ = ws1
    replace HV1y := Lib.hid (HV1y.out.stored T2y.out (.bool (decide (zq < 0))) (.slice A5 n5 c5))
    rw [hs2] at HV1y
    replace HV2 := Lib.hid (HV2.out.stored T2y.out (.bool (decide (zq < 0))) (.slice A5 n5 c5))
    rw [hs2] at HV2
    replace T3y := Lib.hid (T3y.out.other2 T2y.out (.bool (decide (zq < 0))) (.slice A5 n5 c5) (by omega))
    rw [hs2] at T3y
    replace HB := Lib.hid (T2y.out.grow HB.out (by omega) (.bool (decide (zq < 0))) (.slice A5 n5 c5))
    rw [hs2] at HB
    replace T2y := Lib.hid (T2y.out.store (.bool (decide (zq < 0))) (.slice A5 n5 c5))
    rw [hs2] at T2y
    clear hs2
    generalize hs4 : World.setCell (World.setCell ws1 _ _) _ _ = ws3
    replace HV1y := Lib.hid (HV1y.out.stored T3y.out (.bool (decide (zr < 0))) (.slice A6 n6 c6))
    rw [hs4] at HV1y
    replace HV2 := Lib.hid (HV2.out.stored T3y.out (.bool (decide (zr < 0))) (.slice A6 n6 c6))
    rw [hs4] at HV2
    replace T2y := Lib.hid (T2y.out.other2 T3y.out (.bool (decide (zr < 0))) (.slice A6 n6 c6) (by omega))
    rw [hs4] at T2y
    replace HB := Lib.hid (T3y.out.grow HB.out (by omega) (.bool (decide (zr < 0))) (.slice A6 n6 c6))
    rw [hs4] at HB
    replace T3y := Lib.hid (T3y.out.store (.bool (decide (zr < 0))) (.slice A6 n6 c6))
    rw [hs4] at T3y
    clear hs4
    have T2ya := T2y.out.c0
    have T2yb := T2y.out.c1
    have T2yf := T2y.out.fz 0
    have T2yg := T2y.out.fz 1
    have T3ya := T3y.out.c0
    have T3yb := T3y.out.c1
    have T3yf := T3y.out.fz 0
    have T3yg := T3y.out.fz 1
    go_wp2_with fail
    exact bodyPost_ret (v := .tuple #[.agg #[.bool (decide (zq < 0)), .slice A5 n5 c5], .agg #[.bool (decide (zr < 0)), .slice A6 n6 c6], .int .i64 0]) (by simp [results, Try.results13, go_sem, T2ya, T2yb, T3ya, T3yb]) rfl ⟨⟨_, _, rfl, HV1y.out, HV2.out⟩, HB.out⟩

end Go.Proofs.Ytgmooidagkbheaa
