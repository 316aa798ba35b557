/-
  division.Mod.
-/
import Derived.Test.YtgmooidagkbheaaAw
namespace Go.Proofs.Ytgmooidagkbheaa
open Go.RowKit Go.Proofs.YtgmooidagkbheaaW.PrintWords
set_option linter.unusedVariables false

theorem fmod_abs (a m : Int) : Int.fmod a (m.natAbs : Int) = a % m := by
  rw [Int.fmod_eq_emod_of_nonneg _ (by omega)]
  rcases Int.natAbs_eq m with h | h
  · rw [← h]
  · conv => rhs; rw [h]
    rw [Int.emod_neg]
theorem floor0_is {v1 v2 : Value} {z1 z2 : Int} {k1 k2 : Nat} {w : World} (h1 : Rd w v1 z1 k1) (h2 : Rd w v2 z2 k2) (e : z2 = 0) :
    Calls Try.prog 14 #[v1, v2] w fun e w' => e = .returned (.tuple #[.agg #[.bool false, .slice none 0 0], .agg #[.bool false, .slice none 0 0], .int .i64 2]) ∧ Below w.heap.size w w' := by
  subst e
  exact floor0_rd v1 v2 z1 k1 k2 w h1 h2

set_option maxHeartbeats 4000000 in
set_option maxRecDepth 100000 in
theorem mod0_rd {v1 v2 : Value} {z1 z2 : Int} {k1 k2 : Nat} {w : World} (h1 : Rd w v1 z1 k1) (h2 : Rd w v2 z2 k2) (hz : z2 = 0) :
    Calls Try.prog 16 #[v1, v2] w fun e w' => e = .returned (.tuple #[.agg #[.bool false, .slice none 0 0], .int .i64 2]) ∧ Below w.heap.size w w' := by
  obtain ⟨g1, A1, n1, c1, rfl, hs1⟩ := h1.open_
  obtain ⟨g2, A2, n2, c2, rfl, hs2⟩ := h2.open_
  have hbx := boxes3 w (.bool g1) (.slice A1 n1 c1) (.bool g2) (.slice A2 n2 c2)
  generalize hW : ((w.alloc (.cells #[.bool g1, .slice A1 n1 c1] 25)).alloc (.cells #[.bool g2, .slice A2 n2 c2] 25)).alloc (.cells #[.bool false, .slice none 0 0] 25)  = W at hbx
  obtain ⟨hbw, ht0, ht1, ht2⟩ := hbx
  have T0 := Lib.hid ht0
  have T1 := Lib.hid ht1
  have T2 := Lib.hid ht2
  have S1 := Lib.hid (hs1.below hbw)
  have S2 := Lib.hid (hs2.below hbw)
  have HB := Lib.hid hbw
  have HW := Lib.hid hW
  clear h1 h2 hs1 hs2 hbw ht0 ht1 ht2 hW
  have Z1 := Lib.hid S1.out.sz
  have Z2 := Lib.hid S2.out.sz
  have HZ : Hid (((z2.natAbs : Nat) : Int) = 0) := Lib.hid (by omega)
  clear hz
  have T0a := T0.out.c0
  have T0b := T0.out.c1
  have T0f := T0.out.fz 0
  have T0g := T0.out.fz 1
  have T1a := T1.out.c0
  have T1b := T1.out.c1
  have T1f := T1.out.fz 0
  have T1g := T1.out.fz 1
  have T2a := T2.out.c0
  have T2b := T2.out.c1
  have T2f := T2.out.fz 0
  have T2g := T2.out.fz 1
  go_enter Try.func16, Try.ntmps16
  go_wp2_with fail
  rw [HW.out]
  clear T0a T0b T0f T0g T1a T1b T1f T1g T2a T2b T2f T2g
  have T0wa := T0.out.c0
  have T0wb := T0.out.c1
  have T1wa := T1.out.c0
  have T1wb := T1.out.c1
  replace T0 := Lib.hid T0.out.drew
  replace T1 := Lib.hid T1.out.drew
  replace T2 := Lib.hid T2.out.drew
  replace S1 := Lib.hid S1.out.drew
  replace S2 := Lib.hid S2.out.drew
  replace HB := Lib.hid (below_drewN HB.out 1)
  have T0O := T0.out.lt
  have T0l := T0.out.lt
  have T1O := T1.out.lt
  have T1l := T1.out.lt
  have T2O := T2.out.lt
  have T2l := T2.out.lt
  simp only [World.drew] at T0O T0l T1O T1l T2O T2l
  have T0a := T0.out.c0
  have T0b := T0.out.c1
  have T1a := T1.out.c0
  have T1b := T1.out.c1
  go_region_held3 (fun w' => w'.cell? ⟨w.heap.size, 0, none⟩ = some (.bool g1) ∧ w'.cell? ⟨w.heap.size, 1, none⟩ = some (.slice A1 n1 c1) ∧ w'.cell? ⟨w.heap.size + 1, 0, none⟩ = some (.bool g2) ∧ w'.cell? ⟨w.heap.size + 1, 1, none⟩ = some (.slice A2 n2 c2))
    ((first | (refine ⟨?_, ?_, ?_, ?_⟩ <;> (with_reducible assumption)) | (refine ⟨?_, ?_, ?_, ?_⟩ <;> (repeat (first | (with_reducible assumption) | rw [two_cell _ _ _ _ _ _ (by omega)] | rw [cell_drew] | rw [cell_grow _ _ _ _ (by first | omega | (simp; omega))])))))
    (first
     | (go_at_call 26; with_reducible refine (iabs_rd S2.out).mono ?_; rintro e wx ⟨⟨ux, rfl, hvx⟩, hbx⟩; obtain ⟨AU, AUn, AUc, rfl, hvy⟩ := hvx.open_; obtain ⟨du, duh⟩ : ∃ du, decide (((z2.natAbs : Nat) : Int) < 0) = du := ⟨_, rfl⟩; rw [duh] at hvy ⊢; clear hvx duh
        have hn := hbx
        try replace N1 := Lib.hid (N1.out.keep hn)
        try replace N2 := Lib.hid (N2.out.keep hn)
        replace T0 := Lib.hid (T0.out.keep hn)
        replace T1 := Lib.hid (T1.out.keep hn)
        replace T2 := Lib.hid (T2.out.keep hn)
        replace T0l := T0.out.lt
        replace T1l := T1.out.lt
        replace T2l := T2.out.lt
        replace T0a := T0.out.c0
        replace T0b := T0.out.c1
        replace T1a := T1.out.c0
        replace T1b := T1.out.c1
        try (have N1a := N1.out.c0; have N1b := N1.out.c1; have N1f := N1.out.fz 0; have N1g := N1.out.fz 1; have N1l := N1.out.lt)
        try (have N2a := N2.out.c0; have N2b := N2.out.c1; have N2f := N2.out.fz 0; have N2g := N2.out.fz 1; have N2l := N2.out.lt)
        replace S1 := Lib.hid (S1.out.below hn)
        replace S2 := Lib.hid (S2.out.below hn)
        try replace U := Lib.hid (U.out.below hn)
        replace HB := Lib.hid (HB.out.trans (hn.mono HB.out.size))
        have U := Lib.hid hvy
        clear hvy
        clear hbx hn)
     | (go_at_call 26; with_reducible refine (iabs_rd (S2.out.below (grow1 _ (.cells #[.bool false, .slice none 0 0] 25)))).mono ?_; rintro e wx ⟨⟨ux, rfl, hvx⟩, hbx⟩; obtain ⟨AU, AUn, AUc, rfl, hvy⟩ := hvx.open_; obtain ⟨du, duh⟩ : ∃ du, decide (((z2.natAbs : Nat) : Int) < 0) = du := ⟨_, rfl⟩; rw [duh] at hvy ⊢; clear hvx duh
        have T0P := T0l
        have T1P := T1l
        have T2P := T2l
        try have N1P := N1l
        have hn := Below.trans (grow1 _ (.cells #[.bool false, .slice none 0 0] 25)) (hbx.mono (Below.size (grow1 _ (.cells #[.bool false, .slice none 0 0] 25))))
        try replace N1 := Lib.hid (N1.out.keep hn)
        try replace N2 := Lib.hid (N2.out.keep hn)
        first | (have _x := N1.out; have N2 := Lib.hid ((Two.made _ (.bool false) (.slice none 0 0)).keep hbx); clear _x) | have N1 := Lib.hid ((Two.made _ (.bool false) (.slice none 0 0)).keep hbx)
        replace T0 := Lib.hid (T0.out.keep hn)
        replace T1 := Lib.hid (T1.out.keep hn)
        replace T2 := Lib.hid (T2.out.keep hn)
        replace T0l := T0.out.lt
        replace T1l := T1.out.lt
        replace T2l := T2.out.lt
        replace T0a := T0.out.c0
        replace T0b := T0.out.c1
        replace T1a := T1.out.c0
        replace T1b := T1.out.c1
        try (have N1a := N1.out.c0; have N1b := N1.out.c1; have N1f := N1.out.fz 0; have N1g := N1.out.fz 1; have N1l := N1.out.lt)
        try (have N2a := N2.out.c0; have N2b := N2.out.c1; have N2f := N2.out.fz 0; have N2g := N2.out.fz 1; have N2l := N2.out.lt)
        replace S1 := Lib.hid (S1.out.below hn)
        replace S2 := Lib.hid (S2.out.below hn)
        try replace U := Lib.hid (U.out.below hn)
        replace HB := Lib.hid (HB.out.trans (hn.mono HB.out.size))
        have U := Lib.hid hvy
        clear hvy
        clear hbx hn)
     | (go_at_call 26; with_reducible refine (iabs_rd (S2.out.below (grow2 _ (.cells #[.bool false, .slice none 0 0] 25) (.cells #[.bool false, .slice none 0 0] 25)))).mono ?_; rintro e wx ⟨⟨ux, rfl, hvx⟩, hbx⟩; obtain ⟨AU, AUn, AUc, rfl, hvy⟩ := hvx.open_; obtain ⟨du, duh⟩ : ∃ du, decide (((z2.natAbs : Nat) : Int) < 0) = du := ⟨_, rfl⟩; rw [duh] at hvy ⊢; clear hvx duh
        have T0P := T0l
        have T1P := T1l
        have T2P := T2l
        try have N1P := N1l
        have hn := Below.trans (grow2 _ (.cells #[.bool false, .slice none 0 0] 25) (.cells #[.bool false, .slice none 0 0] 25)) (hbx.mono (Below.size (grow2 _ (.cells #[.bool false, .slice none 0 0] 25) (.cells #[.bool false, .slice none 0 0] 25))))
        try replace N1 := Lib.hid (N1.out.keep hn)
        try replace N2 := Lib.hid (N2.out.keep hn)
        have N1 := Lib.hid (((Two.made _ (.bool false) (.slice none 0 0)).alloc (.cells #[.bool false, .slice none 0 0] 25)).keep hbx)
        have N2 := Lib.hid ((Two.made2 _ (.cells #[.bool false, .slice none 0 0] 25) (.bool false) (.slice none 0 0)).keep hbx)
        replace T0 := Lib.hid (T0.out.keep hn)
        replace T1 := Lib.hid (T1.out.keep hn)
        replace T2 := Lib.hid (T2.out.keep hn)
        replace T0l := T0.out.lt
        replace T1l := T1.out.lt
        replace T2l := T2.out.lt
        replace T0a := T0.out.c0
        replace T0b := T0.out.c1
        replace T1a := T1.out.c0
        replace T1b := T1.out.c1
        try (have N1a := N1.out.c0; have N1b := N1.out.c1; have N1f := N1.out.fz 0; have N1g := N1.out.fz 1; have N1l := N1.out.lt)
        try (have N2a := N2.out.c0; have N2b := N2.out.c1; have N2f := N2.out.fz 0; have N2g := N2.out.fz 1; have N2l := N2.out.lt)
        replace S1 := Lib.hid (S1.out.below hn)
        replace S2 := Lib.hid (S2.out.below hn)
        try replace U := Lib.hid (U.out.below hn)
        replace HB := Lib.hid (HB.out.trans (hn.mono HB.out.size))
        have U := Lib.hid hvy
        clear hvy
        clear hbx hn)
     | (go_at_call 26; with_reducible refine (iabs_rd (S2.out.below (grow1d W (.cells #[.bool false, .slice none 0 0] 25)))).mono ?_; rintro e wx ⟨⟨ux, rfl, hvx⟩, hbx⟩; obtain ⟨AU, AUn, AUc, rfl, hvy⟩ := hvx.open_; obtain ⟨du, duh⟩ : ∃ du, decide (((z2.natAbs : Nat) : Int) < 0) = du := ⟨_, rfl⟩; rw [duh] at hvy ⊢; clear hvx duh
        have T0P := T0l
        have T1P := T1l
        have T2P := T2l
        try have N1P := N1l
        have hn := Below.trans (grow1d W (.cells #[.bool false, .slice none 0 0] 25)) (hbx.mono (Below.size (grow1d W (.cells #[.bool false, .slice none 0 0] 25))))
        try replace N1 := Lib.hid (N1.out.keep hn)
        try replace N2 := Lib.hid (N2.out.keep hn)
        first | (have _x := N1.out; have N2 := Lib.hid ((Two.made _ (.bool false) (.slice none 0 0)).drew.keep hbx); clear _x) | have N1 := Lib.hid ((Two.made _ (.bool false) (.slice none 0 0)).drew.keep hbx)
        replace T0 := Lib.hid (T0.out.keep hn)
        replace T1 := Lib.hid (T1.out.keep hn)
        replace T2 := Lib.hid (T2.out.keep hn)
        replace T0l := T0.out.lt
        replace T1l := T1.out.lt
        replace T2l := T2.out.lt
        replace T0a := T0.out.c0
        replace T0b := T0.out.c1
        replace T1a := T1.out.c0
        replace T1b := T1.out.c1
        try (have N1a := N1.out.c0; have N1b := N1.out.c1; have N1f := N1.out.fz 0; have N1g := N1.out.fz 1; have N1l := N1.out.lt)
        try (have N2a := N2.out.c0; have N2b := N2.out.c1; have N2f := N2.out.fz 0; have N2g := N2.out.fz 1; have N2l := N2.out.lt)
        replace S1 := Lib.hid (S1.out.below hn)
        replace S2 := Lib.hid (S2.out.below hn)
        try replace U := Lib.hid (U.out.below hn)
        replace HB := Lib.hid (HB.out.trans (hn.mono HB.out.size))
        have U := Lib.hid hvy
        clear hvy
        clear hbx hn)
     | (go_at_call 26; with_reducible refine (iabs_rd (S2.out.below (grow2d W (.cells #[.bool false, .slice none 0 0] 25) (.cells #[.bool false, .slice none 0 0] 25)))).mono ?_; rintro e wx ⟨⟨ux, rfl, hvx⟩, hbx⟩; obtain ⟨AU, AUn, AUc, rfl, hvy⟩ := hvx.open_; obtain ⟨du, duh⟩ : ∃ du, decide (((z2.natAbs : Nat) : Int) < 0) = du := ⟨_, rfl⟩; rw [duh] at hvy ⊢; clear hvx duh
        have T0P := T0l
        have T1P := T1l
        have T2P := T2l
        try have N1P := N1l
        have hn := Below.trans (grow2d W (.cells #[.bool false, .slice none 0 0] 25) (.cells #[.bool false, .slice none 0 0] 25)) (hbx.mono (Below.size (grow2d W (.cells #[.bool false, .slice none 0 0] 25) (.cells #[.bool false, .slice none 0 0] 25))))
        try replace N1 := Lib.hid (N1.out.keep hn)
        try replace N2 := Lib.hid (N2.out.keep hn)
        have N1 := Lib.hid (((Two.made _ (.bool false) (.slice none 0 0)).alloc (.cells #[.bool false, .slice none 0 0] 25)).drew.keep hbx)
        have N2 := Lib.hid ((Two.made2 _ (.cells #[.bool false, .slice none 0 0] 25) (.bool false) (.slice none 0 0)).drew.keep hbx)
        replace T0 := Lib.hid (T0.out.keep hn)
        replace T1 := Lib.hid (T1.out.keep hn)
        replace T2 := Lib.hid (T2.out.keep hn)
        replace T0l := T0.out.lt
        replace T1l := T1.out.lt
        replace T2l := T2.out.lt
        replace T0a := T0.out.c0
        replace T0b := T0.out.c1
        replace T1a := T1.out.c0
        replace T1b := T1.out.c1
        try (have N1a := N1.out.c0; have N1b := N1.out.c1; have N1f := N1.out.fz 0; have N1g := N1.out.fz 1; have N1l := N1.out.lt)
        try (have N2a := N2.out.c0; have N2b := N2.out.c1; have N2f := N2.out.fz 0; have N2g := N2.out.fz 1; have N2l := N2.out.lt)
        replace S1 := Lib.hid (S1.out.below hn)
        replace S2 := Lib.hid (S2.out.below hn)
        try replace U := Lib.hid (U.out.below hn)
        replace HB := Lib.hid (HB.out.trans (hn.mono HB.out.size))
        have U := Lib.hid hvy
        clear hvy
        clear hbx hn)
     | (go_at_call 14; with_reducible refine (floor0_is S1.out (U.out.rds Z2.out.abs) HZ.out).mono ?_; rintro e wx ⟨rfl, hbx⟩
        have hn := hbx
        try replace N1 := Lib.hid (N1.out.keep hn)
        try replace N2 := Lib.hid (N2.out.keep hn)
        replace T0 := Lib.hid (T0.out.keep hn)
        replace T1 := Lib.hid (T1.out.keep hn)
        replace T2 := Lib.hid (T2.out.keep hn)
        replace T0l := T0.out.lt
        replace T1l := T1.out.lt
        replace T2l := T2.out.lt
        replace T0a := T0.out.c0
        replace T0b := T0.out.c1
        replace T1a := T1.out.c0
        replace T1b := T1.out.c1
        try (have N1a := N1.out.c0; have N1b := N1.out.c1; have N1f := N1.out.fz 0; have N1g := N1.out.fz 1; have N1l := N1.out.lt)
        try (have N2a := N2.out.c0; have N2b := N2.out.c1; have N2f := N2.out.fz 0; have N2g := N2.out.fz 1; have N2l := N2.out.lt)
        replace S1 := Lib.hid (S1.out.below hn)
        replace S2 := Lib.hid (S2.out.below hn)
        try replace U := Lib.hid (U.out.below hn)
        replace HB := Lib.hid (HB.out.trans (hn.mono HB.out.size))
        clear hbx hn)
     | (go_at_call 14; with_reducible refine (floor0_is (S1.out.below (grow1 _ (.cells #[.bool false, .slice none 0 0] 25))) ((U.out.below (grow1 _ (.cells #[.bool false, .slice none 0 0] 25))).rds Z2.out.abs) HZ.out).mono ?_; rintro e wx ⟨rfl, hbx⟩
        have T0P := T0l
        have T1P := T1l
        have T2P := T2l
        try have N1P := N1l
        have hn := Below.trans (grow1 _ (.cells #[.bool false, .slice none 0 0] 25)) (hbx.mono (Below.size (grow1 _ (.cells #[.bool false, .slice none 0 0] 25))))
        try replace N1 := Lib.hid (N1.out.keep hn)
        try replace N2 := Lib.hid (N2.out.keep hn)
        first | (have _x := N1.out; have N2 := Lib.hid ((Two.made _ (.bool false) (.slice none 0 0)).keep hbx); clear _x) | have N1 := Lib.hid ((Two.made _ (.bool false) (.slice none 0 0)).keep hbx)
        replace T0 := Lib.hid (T0.out.keep hn)
        replace T1 := Lib.hid (T1.out.keep hn)
        replace T2 := Lib.hid (T2.out.keep hn)
        replace T0l := T0.out.lt
        replace T1l := T1.out.lt
        replace T2l := T2.out.lt
        replace T0a := T0.out.c0
        replace T0b := T0.out.c1
        replace T1a := T1.out.c0
        replace T1b := T1.out.c1
        try (have N1a := N1.out.c0; have N1b := N1.out.c1; have N1f := N1.out.fz 0; have N1g := N1.out.fz 1; have N1l := N1.out.lt)
        try (have N2a := N2.out.c0; have N2b := N2.out.c1; have N2f := N2.out.fz 0; have N2g := N2.out.fz 1; have N2l := N2.out.lt)
        replace S1 := Lib.hid (S1.out.below hn)
        replace S2 := Lib.hid (S2.out.below hn)
        try replace U := Lib.hid (U.out.below hn)
        replace HB := Lib.hid (HB.out.trans (hn.mono HB.out.size))
        clear hbx hn)
     | (go_at_call 14; with_reducible refine (floor0_is (S1.out.below (grow2 _ (.cells #[.bool false, .slice none 0 0] 25) (.cells #[.bool false, .slice none 0 0] 25))) ((U.out.below (grow2 _ (.cells #[.bool false, .slice none 0 0] 25) (.cells #[.bool false, .slice none 0 0] 25))).rds Z2.out.abs) HZ.out).mono ?_; rintro e wx ⟨rfl, hbx⟩
        have T0P := T0l
        have T1P := T1l
        have T2P := T2l
        try have N1P := N1l
        have hn := Below.trans (grow2 _ (.cells #[.bool false, .slice none 0 0] 25) (.cells #[.bool false, .slice none 0 0] 25)) (hbx.mono (Below.size (grow2 _ (.cells #[.bool false, .slice none 0 0] 25) (.cells #[.bool false, .slice none 0 0] 25))))
        try replace N1 := Lib.hid (N1.out.keep hn)
        try replace N2 := Lib.hid (N2.out.keep hn)
        have N1 := Lib.hid (((Two.made _ (.bool false) (.slice none 0 0)).alloc (.cells #[.bool false, .slice none 0 0] 25)).keep hbx)
        have N2 := Lib.hid ((Two.made2 _ (.cells #[.bool false, .slice none 0 0] 25) (.bool false) (.slice none 0 0)).keep hbx)
        replace T0 := Lib.hid (T0.out.keep hn)
        replace T1 := Lib.hid (T1.out.keep hn)
        replace T2 := Lib.hid (T2.out.keep hn)
        replace T0l := T0.out.lt
        replace T1l := T1.out.lt
        replace T2l := T2.out.lt
        replace T0a := T0.out.c0
        replace T0b := T0.out.c1
        replace T1a := T1.out.c0
        replace T1b := T1.out.c1
        try (have N1a := N1.out.c0; have N1b := N1.out.c1; have N1f := N1.out.fz 0; have N1g := N1.out.fz 1; have N1l := N1.out.lt)
        try (have N2a := N2.out.c0; have N2b := N2.out.c1; have N2f := N2.out.fz 0; have N2g := N2.out.fz 1; have N2l := N2.out.lt)
        replace S1 := Lib.hid (S1.out.below hn)
        replace S2 := Lib.hid (S2.out.below hn)
        try replace U := Lib.hid (U.out.below hn)
        replace HB := Lib.hid (HB.out.trans (hn.mono HB.out.size))
        clear hbx hn)
     | (go_at_call 14; with_reducible refine (floor0_is (S1.out.below (grow1d W (.cells #[.bool false, .slice none 0 0] 25))) ((U.out.below (grow1d W (.cells #[.bool false, .slice none 0 0] 25))).rds Z2.out.abs) HZ.out).mono ?_; rintro e wx ⟨rfl, hbx⟩
        have T0P := T0l
        have T1P := T1l
        have T2P := T2l
        try have N1P := N1l
        have hn := Below.trans (grow1d W (.cells #[.bool false, .slice none 0 0] 25)) (hbx.mono (Below.size (grow1d W (.cells #[.bool false, .slice none 0 0] 25))))
        try replace N1 := Lib.hid (N1.out.keep hn)
        try replace N2 := Lib.hid (N2.out.keep hn)
        first | (have _x := N1.out; have N2 := Lib.hid ((Two.made _ (.bool false) (.slice none 0 0)).drew.keep hbx); clear _x) | have N1 := Lib.hid ((Two.made _ (.bool false) (.slice none 0 0)).drew.keep hbx)
        replace T0 := Lib.hid (T0.out.keep hn)
        replace T1 := Lib.hid (T1.out.keep hn)
        replace T2 := Lib.hid (T2.out.keep hn)
        replace T0l := T0.out.lt
        replace T1l := T1.out.lt
        replace T2l := T2.out.lt
        replace T0a := T0.out.c0
        replace T0b := T0.out.c1
        replace T1a := T1.out.c0
        replace T1b := T1.out.c1
        try (have N1a := N1.out.c0; have N1b := N1.out.c1; have N1f := N1.out.fz 0; have N1g := N1.out.fz 1; have N1l := N1.out.lt)
        try (have N2a := N2.out.c0; have N2b := N2.out.c1; have N2f := N2.out.fz 0; have N2g := N2.out.fz 1; have N2l := N2.out.lt)
        replace S1 := Lib.hid (S1.out.below hn)
        replace S2 := Lib.hid (S2.out.below hn)
        try replace U := Lib.hid (U.out.below hn)
        replace HB := Lib.hid (HB.out.trans (hn.mono HB.out.size))
        clear hbx hn)
     | (go_at_call 14; with_reducible refine (floor0_is (S1.out.below (grow2d W (.cells #[.bool false, .slice none 0 0] 25) (.cells #[.bool false, .slice none 0 0] 25))) ((U.out.below (grow2d W (.cells #[.bool false, .slice none 0 0] 25) (.cells #[.bool false, .slice none 0 0] 25))).rds Z2.out.abs) HZ.out).mono ?_; rintro e wx ⟨rfl, hbx⟩
        have T0P := T0l
        have T1P := T1l
        have T2P := T2l
        try have N1P := N1l
        have hn := Below.trans (grow2d W (.cells #[.bool false, .slice none 0 0] 25) (.cells #[.bool false, .slice none 0 0] 25)) (hbx.mono (Below.size (grow2d W (.cells #[.bool false, .slice none 0 0] 25) (.cells #[.bool false, .slice none 0 0] 25))))
        try replace N1 := Lib.hid (N1.out.keep hn)
        try replace N2 := Lib.hid (N2.out.keep hn)
        have N1 := Lib.hid (((Two.made _ (.bool false) (.slice none 0 0)).alloc (.cells #[.bool false, .slice none 0 0] 25)).drew.keep hbx)
        have N2 := Lib.hid ((Two.made2 _ (.cells #[.bool false, .slice none 0 0] 25) (.bool false) (.slice none 0 0)).drew.keep hbx)
        replace T0 := Lib.hid (T0.out.keep hn)
        replace T1 := Lib.hid (T1.out.keep hn)
        replace T2 := Lib.hid (T2.out.keep hn)
        replace T0l := T0.out.lt
        replace T1l := T1.out.lt
        replace T2l := T2.out.lt
        replace T0a := T0.out.c0
        replace T0b := T0.out.c1
        replace T1a := T1.out.c0
        replace T1b := T1.out.c1
        try (have N1a := N1.out.c0; have N1b := N1.out.c1; have N1f := N1.out.fz 0; have N1g := N1.out.fz 1; have N1l := N1.out.lt)
        try (have N2a := N2.out.c0; have N2b := N2.out.c1; have N2f := N2.out.fz 0; have N2g := N2.out.fz 1; have N2l := N2.out.lt)
        replace S1 := Lib.hid (S1.out.below hn)
        replace S2 := Lib.hid (S2.out.below hn)
        try replace U := Lib.hid (U.out.below hn)
        replace HB := Lib.hid (HB.out.trans (hn.mono HB.out.size))
        clear hbx hn))
  all_goals
    rename_i hH
    clear hH
    refine with_facts_at 7 rfl (fun g0 F => Two F (w.heap.size + 1 + 1) (.bool false) (.slice none 0 0) ∧ Two F g0 (.bool false) (.slice none 0 0) ∧ Below w.heap.size w F) ?fa ?fk
    case fa => refine ⟨?_, ?_, ?_⟩ <;> (repeat (first | with_reducible exact T2.out | with_reducible exact N1.out | with_reducible exact N2.out | with_reducible exact HB.out | with_reducible exact Bs.of N1.out | with_reducible exact Bs.of N2.out | with_reducible exact Bs.of T2.out | with_reducible refine Two.st ?_ _ _ | (with_reducible refine Two.ot ?_ ?hne _ _; case hne => omega) | (with_reducible refine Two.mk' ?_ _ _; (first | with_reducible rfl | omega | (simp; done))) | with_reducible refine Two.alloc ?_ _ | with_reducible refine Bs.same ?_ _ _ _ _ | (with_reducible refine Bs.ot ?_ ?hne _ _; case hne => omega) | (with_reducible refine Bs.mk' ?_ _ _ _ _; (first | with_reducible rfl | omega | (simp; done))) | with_reducible refine Bs.al ?_ _ | with_reducible refine In.st ?_ ?_ _ _ | with_reducible refine In.al ?_ _ | with_reducible refine Rd.st ?_ ?_ _ _ | with_reducible refine Rd.al ?_ _ | (with_reducible refine Below.st ?_ ?hne _ _; case hne => omega) | with_reducible refine Below.al ?_ _))
    case fk =>
      intro F hF
      obtain ⟨T2p, T4p, HBp⟩ := hF
      replace T2 := Lib.hid T2p
      clear T2p
      have T4 := Lib.hid T4p
      clear T4p
      replace HB := Lib.hid HBp
      clear HBp
      have T2a := T2.out.c0
      have T2b := T2.out.c1
      have T2f := T2.out.fz 0
      have T2g := T2.out.fz 1
      have T4a := T4.out.c0
      have T4b := T4.out.c1
      have T4f := T4.out.fz 0
      have T4g := T4.out.fz 1
      go_wp2_with fail
      clear T4
      clear T2a T2b T2f T2g T4a T4b T4f T4g
      generalize hs2 : World.setCell (World.setCell F _ _) _ _ = ws1
      replace HB := Lib.hid (T2.out.grow HB.out (by omega) (.bool false) (.slice none 0 0))
      rw [hs2] at HB
      replace T2 := Lib.hid (T2.out.store (.bool false) (.slice none 0 0))
      rw [hs2] at T2
      clear hs2
      have T2a := T2.out.c0
      have T2b := T2.out.c1
      have T2f := T2.out.fz 0
      have T2g := T2.out.fz 1
      exact bodyPost_ret (v := .tuple #[.agg #[.bool false, .slice none 0 0], .int .i64 2]) (by simp [results, Try.results16, go_sem, T2a, T2b]) rfl ⟨rfl, HB.out⟩

set_option maxHeartbeats 4000000 in
set_option maxRecDepth 100000 in
theorem mod_rd {v1 v2 : Value} {z1 z2 : Int} {k1 k2 : Nat} {w : World} (h1 : Rd w v1 z1 k1) (h2 : Rd w v2 z2 k2) (q1 : k1 ≤ 100000) (q2 : k2 ≤ 100000) (hz : z2 ≠ 0) :
    Calls Try.prog 16 #[v1, v2] w fun e w' => (∃ r, e = .returned (.tuple #[r, .int .i64 0]) ∧ In w' r (z1 % z2)) ∧ Below w.heap.size w w' := by
  obtain ⟨g1, A1, n1, c1, rfl, hs1⟩ := h1.open_
  obtain ⟨g2, A2, n2, c2, rfl, hs2⟩ := h2.open_
  have hbx := boxes3 w (.bool g1) (.slice A1 n1 c1) (.bool g2) (.slice A2 n2 c2)
  generalize hW : ((w.alloc (.cells #[.bool g1, .slice A1 n1 c1] 25)).alloc (.cells #[.bool g2, .slice A2 n2 c2] 25)).alloc (.cells #[.bool false, .slice none 0 0] 25)  = W at hbx
  obtain ⟨hbw, ht0, ht1, ht2⟩ := hbx
  have T0 := Lib.hid ht0
  have T1 := Lib.hid ht1
  have T2 := Lib.hid ht2
  have S1 := Lib.hid (hs1.below hbw)
  have S2 := Lib.hid (hs2.below hbw)
  have HB := Lib.hid hbw
  have HW := Lib.hid hW
  clear h1 h2 hs1 hs2 hbw ht0 ht1 ht2 hW
  have Z1 := Lib.hid S1.out.sz
  have Z2 := Lib.hid S2.out.sz
  have HZ : Hid (((z2.natAbs : Nat) : Int) ≠ 0) := Lib.hid (by omega)
  have HK := Lib.hid (And.intro q1 q2)
  have HR := Lib.hid (fmod_abs z1 z2)
  generalize z1 % z2 = m at *
  obtain ⟨fq, hq⟩ : ∃ q, Int.fdiv z1 (z2.natAbs : Int) = q := ⟨_, rfl⟩
  have HQ := Lib.hid hq
  clear hq hz q1 q2
  have T0a := T0.out.c0
  have T0b := T0.out.c1
  have T0f := T0.out.fz 0
  have T0g := T0.out.fz 1
  have T1a := T1.out.c0
  have T1b := T1.out.c1
  have T1f := T1.out.fz 0
  have T1g := T1.out.fz 1
  have T2a := T2.out.c0
  have T2b := T2.out.c1
  have T2f := T2.out.fz 0
  have T2g := T2.out.fz 1
  go_enter Try.func16, Try.ntmps16
  go_wp2_with fail
  rw [HW.out]
  clear T0a T0b T0f T0g T1a T1b T1f T1g T2a T2b T2f T2g
  have T0wa := T0.out.c0
  have T0wb := T0.out.c1
  have T1wa := T1.out.c0
  have T1wb := T1.out.c1
  replace T0 := Lib.hid T0.out.drew
  replace T1 := Lib.hid T1.out.drew
  replace T2 := Lib.hid T2.out.drew
  replace S1 := Lib.hid S1.out.drew
  replace S2 := Lib.hid S2.out.drew
  replace HB := Lib.hid (below_drewN HB.out 1)
  have T0O := T0.out.lt
  have T0l := T0.out.lt
  have T1O := T1.out.lt
  have T1l := T1.out.lt
  have T2O := T2.out.lt
  have T2l := T2.out.lt
  simp only [World.drew] at T0O T0l T1O T1l T2O T2l
  have T0a := T0.out.c0
  have T0b := T0.out.c1
  have T1a := T1.out.c0
  have T1b := T1.out.c1
  go_region_held3 (fun w' => w'.cell? ⟨w.heap.size, 0, none⟩ = some (.bool g1) ∧ w'.cell? ⟨w.heap.size, 1, none⟩ = some (.slice A1 n1 c1) ∧ w'.cell? ⟨w.heap.size + 1, 0, none⟩ = some (.bool g2) ∧ w'.cell? ⟨w.heap.size + 1, 1, none⟩ = some (.slice A2 n2 c2))
    ((first | (refine ⟨?_, ?_, ?_, ?_⟩ <;> (with_reducible assumption)) | (refine ⟨?_, ?_, ?_, ?_⟩ <;> (repeat (first | (with_reducible assumption) | rw [two_cell _ _ _ _ _ _ (by omega)] | rw [cell_drew] | rw [cell_grow _ _ _ _ (by first | omega | (simp; omega))])))))
    (first
     | (go_at_call 26; with_reducible refine (iabs_rd S2.out).mono ?_; rintro e wx ⟨⟨ux, rfl, hvx⟩, hbx⟩; obtain ⟨AU, AUn, AUc, rfl, hvy⟩ := hvx.open_; obtain ⟨du, duh⟩ : ∃ du, decide (((z2.natAbs : Nat) : Int) < 0) = du := ⟨_, rfl⟩; rw [duh] at hvy ⊢; clear hvx duh
        have hn := hbx
        try replace N1 := Lib.hid (N1.out.keep hn)
        try replace N2 := Lib.hid (N2.out.keep hn)
        replace T0 := Lib.hid (T0.out.keep hn)
        replace T1 := Lib.hid (T1.out.keep hn)
        replace T2 := Lib.hid (T2.out.keep hn)
        replace T0l := T0.out.lt
        replace T1l := T1.out.lt
        replace T2l := T2.out.lt
        replace T0a := T0.out.c0
        replace T0b := T0.out.c1
        replace T1a := T1.out.c0
        replace T1b := T1.out.c1
        try (have N1a := N1.out.c0; have N1b := N1.out.c1; have N1f := N1.out.fz 0; have N1g := N1.out.fz 1; have N1l := N1.out.lt)
        try (have N2a := N2.out.c0; have N2b := N2.out.c1; have N2f := N2.out.fz 0; have N2g := N2.out.fz 1; have N2l := N2.out.lt)
        replace S1 := Lib.hid (S1.out.below hn)
        replace S2 := Lib.hid (S2.out.below hn)
        try replace U := Lib.hid (U.out.below hn)
        replace HB := Lib.hid (HB.out.trans (hn.mono HB.out.size))
        have U := Lib.hid hvy
        clear hvy
        clear hbx hn)
     | (go_at_call 26; with_reducible refine (iabs_rd (S2.out.below (grow1 _ (.cells #[.bool false, .slice none 0 0] 25)))).mono ?_; rintro e wx ⟨⟨ux, rfl, hvx⟩, hbx⟩; obtain ⟨AU, AUn, AUc, rfl, hvy⟩ := hvx.open_; obtain ⟨du, duh⟩ : ∃ du, decide (((z2.natAbs : Nat) : Int) < 0) = du := ⟨_, rfl⟩; rw [duh] at hvy ⊢; clear hvx duh
        have T0P := T0l
        have T1P := T1l
        have T2P := T2l
        try have N1P := N1l
        have hn := Below.trans (grow1 _ (.cells #[.bool false, .slice none 0 0] 25)) (hbx.mono (Below.size (grow1 _ (.cells #[.bool false, .slice none 0 0] 25))))
        try replace N1 := Lib.hid (N1.out.keep hn)
        try replace N2 := Lib.hid (N2.out.keep hn)
        first | (have _x := N1.out; have N2 := Lib.hid ((Two.made _ (.bool false) (.slice none 0 0)).keep hbx); clear _x) | have N1 := Lib.hid ((Two.made _ (.bool false) (.slice none 0 0)).keep hbx)
        replace T0 := Lib.hid (T0.out.keep hn)
        replace T1 := Lib.hid (T1.out.keep hn)
        replace T2 := Lib.hid (T2.out.keep hn)
        replace T0l := T0.out.lt
        replace T1l := T1.out.lt
        replace T2l := T2.out.lt
        replace T0a := T0.out.c0
        replace T0b := T0.out.c1
        replace T1a := T1.out.c0
        replace T1b := T1.out.c1
        try (have N1a := N1.out.c0; have N1b := N1.out.c1; have N1f := N1.out.fz 0; have N1g := N1.out.fz 1; have N1l := N1.out.lt)
        try (have N2a := N2.out.c0; have N2b := N2.out.c1; have N2f := N2.out.fz 0; have N2g := N2.out.fz 1; have N2l := N2.out.lt)
        replace S1 := Lib.hid (S1.out.below hn)
        replace S2 := Lib.hid (S2.out.below hn)
        try replace U := Lib.hid (U.out.below hn)
        replace HB := Lib.hid (HB.out.trans (hn.mono HB.out.size))
        have U := Lib.hid hvy
        clear hvy
        clear hbx hn)
     | (go_at_call 26; with_reducible refine (iabs_rd (S2.out.below (grow2 _ (.cells #[.bool false, .slice none 0 0] 25) (.cells #[.bool false, .slice none 0 0] 25)))).mono ?_; rintro e wx ⟨⟨ux, rfl, hvx⟩, hbx⟩; obtain ⟨AU, AUn, AUc, rfl, hvy⟩ := hvx.open_; obtain ⟨du, duh⟩ : ∃ du, decide (((z2.natAbs : Nat) : Int) < 0) = du := ⟨_, rfl⟩; rw [duh] at hvy ⊢; clear hvx duh
        have T0P := T0l
        have T1P := T1l
        have T2P := T2l
        try have N1P := N1l
        have hn := Below.trans (grow2 _ (.cells #[.bool false, .slice none 0 0] 25) (.cells #[.bool false, .slice none 0 0] 25)) (hbx.mono (Below.size (grow2 _ (.cells #[.bool false, .slice none 0 0] 25) (.cells #[.bool false, .slice none 0 0] 25))))
        try replace N1 := Lib.hid (N1.out.keep hn)
        try replace N2 := Lib.hid (N2.out.keep hn)
        have N1 := Lib.hid (((Two.made _ (.bool false) (.slice none 0 0)).alloc (.cells #[.bool false, .slice none 0 0] 25)).keep hbx)
        have N2 := Lib.hid ((Two.made2 _ (.cells #[.bool false, .slice none 0 0] 25) (.bool false) (.slice none 0 0)).keep hbx)
        replace T0 := Lib.hid (T0.out.keep hn)
        replace T1 := Lib.hid (T1.out.keep hn)
        replace T2 := Lib.hid (T2.out.keep hn)
        replace T0l := T0.out.lt
        replace T1l := T1.out.lt
        replace T2l := T2.out.lt
        replace T0a := T0.out.c0
        replace T0b := T0.out.c1
        replace T1a := T1.out.c0
        replace T1b := T1.out.c1
        try (have N1a := N1.out.c0; have N1b := N1.out.c1; have N1f := N1.out.fz 0; have N1g := N1.out.fz 1; have N1l := N1.out.lt)
        try (have N2a := N2.out.c0; have N2b := N2.out.c1; have N2f := N2.out.fz 0; have N2g := N2.out.fz 1; have N2l := N2.out.lt)
        replace S1 := Lib.hid (S1.out.below hn)
        replace S2 := Lib.hid (S2.out.below hn)
        try replace U := Lib.hid (U.out.below hn)
        replace HB := Lib.hid (HB.out.trans (hn.mono HB.out.size))
        have U := Lib.hid hvy
        clear hvy
        clear hbx hn)
     | (go_at_call 26; with_reducible refine (iabs_rd (S2.out.below (grow1d W (.cells #[.bool false, .slice none 0 0] 25)))).mono ?_; rintro e wx ⟨⟨ux, rfl, hvx⟩, hbx⟩; obtain ⟨AU, AUn, AUc, rfl, hvy⟩ := hvx.open_; obtain ⟨du, duh⟩ : ∃ du, decide (((z2.natAbs : Nat) : Int) < 0) = du := ⟨_, rfl⟩; rw [duh] at hvy ⊢; clear hvx duh
        have T0P := T0l
        have T1P := T1l
        have T2P := T2l
        try have N1P := N1l
        have hn := Below.trans (grow1d W (.cells #[.bool false, .slice none 0 0] 25)) (hbx.mono (Below.size (grow1d W (.cells #[.bool false, .slice none 0 0] 25))))
        try replace N1 := Lib.hid (N1.out.keep hn)
        try replace N2 := Lib.hid (N2.out.keep hn)
        first | (have _x := N1.out; have N2 := Lib.hid ((Two.made _ (.bool false) (.slice none 0 0)).drew.keep hbx); clear _x) | have N1 := Lib.hid ((Two.made _ (.bool false) (.slice none 0 0)).drew.keep hbx)
        replace T0 := Lib.hid (T0.out.keep hn)
        replace T1 := Lib.hid (T1.out.keep hn)
        replace T2 := Lib.hid (T2.out.keep hn)
        replace T0l := T0.out.lt
        replace T1l := T1.out.lt
        replace T2l := T2.out.lt
        replace T0a := T0.out.c0
        replace T0b := T0.out.c1
        replace T1a := T1.out.c0
        replace T1b := T1.out.c1
        try (have N1a := N1.out.c0; have N1b := N1.out.c1; have N1f := N1.out.fz 0; have N1g := N1.out.fz 1; have N1l := N1.out.lt)
        try (have N2a := N2.out.c0; have N2b := N2.out.c1; have N2f := N2.out.fz 0; have N2g := N2.out.fz 1; have N2l := N2.out.lt)
        replace S1 := Lib.hid (S1.out.below hn)
        replace S2 := Lib.hid (S2.out.below hn)
        try replace U := Lib.hid (U.out.below hn)
        replace HB := Lib.hid (HB.out.trans (hn.mono HB.out.size))
        have U := Lib.hid hvy
        clear hvy
        clear hbx hn)
     | (go_at_call 26; with_reducible refine (iabs_rd (S2.out.below (grow2d W (.cells #[.bool false, .slice none 0 0] 25) (.cells #[.bool false, .slice none 0 0] 25)))).mono ?_; rintro e wx ⟨⟨ux, rfl, hvx⟩, hbx⟩; obtain ⟨AU, AUn, AUc, rfl, hvy⟩ := hvx.open_; obtain ⟨du, duh⟩ : ∃ du, decide (((z2.natAbs : Nat) : Int) < 0) = du := ⟨_, rfl⟩; rw [duh] at hvy ⊢; clear hvx duh
        have T0P := T0l
        have T1P := T1l
        have T2P := T2l
        try have N1P := N1l
        have hn := Below.trans (grow2d W (.cells #[.bool false, .slice none 0 0] 25) (.cells #[.bool false, .slice none 0 0] 25)) (hbx.mono (Below.size (grow2d W (.cells #[.bool false, .slice none 0 0] 25) (.cells #[.bool false, .slice none 0 0] 25))))
        try replace N1 := Lib.hid (N1.out.keep hn)
        try replace N2 := Lib.hid (N2.out.keep hn)
        have N1 := Lib.hid (((Two.made _ (.bool false) (.slice none 0 0)).alloc (.cells #[.bool false, .slice none 0 0] 25)).drew.keep hbx)
        have N2 := Lib.hid ((Two.made2 _ (.cells #[.bool false, .slice none 0 0] 25) (.bool false) (.slice none 0 0)).drew.keep hbx)
        replace T0 := Lib.hid (T0.out.keep hn)
        replace T1 := Lib.hid (T1.out.keep hn)
        replace T2 := Lib.hid (T2.out.keep hn)
        replace T0l := T0.out.lt
        replace T1l := T1.out.lt
        replace T2l := T2.out.lt
        replace T0a := T0.out.c0
        replace T0b := T0.out.c1
        replace T1a := T1.out.c0
        replace T1b := T1.out.c1
        try (have N1a := N1.out.c0; have N1b := N1.out.c1; have N1f := N1.out.fz 0; have N1g := N1.out.fz 1; have N1l := N1.out.lt)
        try (have N2a := N2.out.c0; have N2b := N2.out.c1; have N2f := N2.out.fz 0; have N2g := N2.out.fz 1; have N2l := N2.out.lt)
        replace S1 := Lib.hid (S1.out.below hn)
        replace S2 := Lib.hid (S2.out.below hn)
        try replace U := Lib.hid (U.out.below hn)
        replace HB := Lib.hid (HB.out.trans (hn.mono HB.out.size))
        have U := Lib.hid hvy
        clear hvy
        clear hbx hn)
     | (go_at_call 14; with_reducible refine (floor_is S1.out (U.out.rds Z2.out.abs) HK.out.1 HK.out.2 HZ.out HQ.out HR.out).mono ?_; rintro e wx ⟨⟨ux, uy, rfl, hvx, hvz⟩, hbx⟩; obtain ⟨AQ, AQn, AQc, rfl, hvy⟩ := hvx.open_; obtain ⟨dq, dqh⟩ : ∃ dq, decide (fq < 0) = dq := ⟨_, rfl⟩; rw [dqh] at hvy ⊢; obtain ⟨AR, ARn, ARc, rfl, hvw⟩ := hvz.open_; obtain ⟨dr, drh⟩ : ∃ dr, decide (m < 0) = dr := ⟨_, rfl⟩; rw [drh] at hvw ⊢; clear hvx hvz dqh drh
        have hn := hbx
        try replace N1 := Lib.hid (N1.out.keep hn)
        try replace N2 := Lib.hid (N2.out.keep hn)
        replace T0 := Lib.hid (T0.out.keep hn)
        replace T1 := Lib.hid (T1.out.keep hn)
        replace T2 := Lib.hid (T2.out.keep hn)
        replace T0l := T0.out.lt
        replace T1l := T1.out.lt
        replace T2l := T2.out.lt
        replace T0a := T0.out.c0
        replace T0b := T0.out.c1
        replace T1a := T1.out.c0
        replace T1b := T1.out.c1
        try (have N1a := N1.out.c0; have N1b := N1.out.c1; have N1f := N1.out.fz 0; have N1g := N1.out.fz 1; have N1l := N1.out.lt)
        try (have N2a := N2.out.c0; have N2b := N2.out.c1; have N2f := N2.out.fz 0; have N2g := N2.out.fz 1; have N2l := N2.out.lt)
        replace S1 := Lib.hid (S1.out.below hn)
        replace S2 := Lib.hid (S2.out.below hn)
        try replace U := Lib.hid (U.out.below hn)
        replace HB := Lib.hid (HB.out.trans (hn.mono HB.out.size))
        have Q := Lib.hid hvy
        have R := Lib.hid hvw
        clear hvy hvw
        clear hbx hn)
     | (go_at_call 14; with_reducible refine (floor_is (S1.out.below (grow1 _ (.cells #[.bool false, .slice none 0 0] 25))) ((U.out.below (grow1 _ (.cells #[.bool false, .slice none 0 0] 25))).rds Z2.out.abs) HK.out.1 HK.out.2 HZ.out HQ.out HR.out).mono ?_; rintro e wx ⟨⟨ux, uy, rfl, hvx, hvz⟩, hbx⟩; obtain ⟨AQ, AQn, AQc, rfl, hvy⟩ := hvx.open_; obtain ⟨dq, dqh⟩ : ∃ dq, decide (fq < 0) = dq := ⟨_, rfl⟩; rw [dqh] at hvy ⊢; obtain ⟨AR, ARn, ARc, rfl, hvw⟩ := hvz.open_; obtain ⟨dr, drh⟩ : ∃ dr, decide (m < 0) = dr := ⟨_, rfl⟩; rw [drh] at hvw ⊢; clear hvx hvz dqh drh
        have T0P := T0l
        have T1P := T1l
        have T2P := T2l
        try have N1P := N1l
        have hn := Below.trans (grow1 _ (.cells #[.bool false, .slice none 0 0] 25)) (hbx.mono (Below.size (grow1 _ (.cells #[.bool false, .slice none 0 0] 25))))
        try replace N1 := Lib.hid (N1.out.keep hn)
        try replace N2 := Lib.hid (N2.out.keep hn)
        first | (have _x := N1.out; have N2 := Lib.hid ((Two.made _ (.bool false) (.slice none 0 0)).keep hbx); clear _x) | have N1 := Lib.hid ((Two.made _ (.bool false) (.slice none 0 0)).keep hbx)
        replace T0 := Lib.hid (T0.out.keep hn)
        replace T1 := Lib.hid (T1.out.keep hn)
        replace T2 := Lib.hid (T2.out.keep hn)
        replace T0l := T0.out.lt
        replace T1l := T1.out.lt
        replace T2l := T2.out.lt
        replace T0a := T0.out.c0
        replace T0b := T0.out.c1
        replace T1a := T1.out.c0
        replace T1b := T1.out.c1
        try (have N1a := N1.out.c0; have N1b := N1.out.c1; have N1f := N1.out.fz 0; have N1g := N1.out.fz 1; have N1l := N1.out.lt)
        try (have N2a := N2.out.c0; have N2b := N2.out.c1; have N2f := N2.out.fz 0; have N2g := N2.out.fz 1; have N2l := N2.out.lt)
        replace S1 := Lib.hid (S1.out.below hn)
        replace S2 := Lib.hid (S2.out.below hn)
        try replace U := Lib.hid (U.out.below hn)
        replace HB := Lib.hid (HB.out.trans (hn.mono HB.out.size))
        have Q := Lib.hid hvy
        have R := Lib.hid hvw
        clear hvy hvw
        clear hbx hn)
     | (go_at_call 14; with_reducible refine (floor_is (S1.out.below (grow2 _ (.cells #[.bool false, .slice none 0 0] 25) (.cells #[.bool false, .slice none 0 0] 25))) ((U.out.below (grow2 _ (.cells #[.bool false, .slice none 0 0] 25) (.cells #[.bool false, .slice none 0 0] 25))).rds Z2.out.abs) HK.out.1 HK.out.2 HZ.out HQ.out HR.out).mono ?_; rintro e wx ⟨⟨ux, uy, rfl, hvx, hvz⟩, hbx⟩; obtain ⟨AQ, AQn, AQc, rfl, hvy⟩ := hvx.open_; obtain ⟨dq, dqh⟩ : ∃ dq, decide (fq < 0) = dq := ⟨_, rfl⟩; rw [dqh] at hvy ⊢; obtain ⟨AR, ARn, ARc, rfl, hvw⟩ := hvz.open_; obtain ⟨dr, drh⟩ : ∃ dr, decide (m < 0) = dr := ⟨_, rfl⟩; rw [drh] at hvw ⊢; clear hvx hvz dqh drh
        have T0P := T0l
        have T1P := T1l
        have T2P := T2l
        try have N1P := N1l
        have hn := Below.trans (grow2 _ (.cells #[.bool false, .slice none 0 0] 25) (.cells #[.bool false, .slice none 0 0] 25)) (hbx.mono (Below.size (grow2 _ (.cells #[.bool false, .slice none 0 0] 25) (.cells #[.bool false, .slice none 0 0] 25))))
        try replace N1 := Lib.hid (N1.out.keep hn)
        try replace N2 := Lib.hid (N2.out.keep hn)
        have N1 := Lib.hid (((Two.made _ (.bool false) (.slice none 0 0)).alloc (.cells #[.bool false, .slice none 0 0] 25)).keep hbx)
        have N2 := Lib.hid ((Two.made2 _ (.cells #[.bool false, .slice none 0 0] 25) (.bool false) (.slice none 0 0)).keep hbx)
        replace T0 := Lib.hid (T0.out.keep hn)
        replace T1 := Lib.hid (T1.out.keep hn)
        replace T2 := Lib.hid (T2.out.keep hn)
        replace T0l := T0.out.lt
        replace T1l := T1.out.lt
        replace T2l := T2.out.lt
        replace T0a := T0.out.c0
        replace T0b := T0.out.c1
        replace T1a := T1.out.c0
        replace T1b := T1.out.c1
        try (have N1a := N1.out.c0; have N1b := N1.out.c1; have N1f := N1.out.fz 0; have N1g := N1.out.fz 1; have N1l := N1.out.lt)
        try (have N2a := N2.out.c0; have N2b := N2.out.c1; have N2f := N2.out.fz 0; have N2g := N2.out.fz 1; have N2l := N2.out.lt)
        replace S1 := Lib.hid (S1.out.below hn)
        replace S2 := Lib.hid (S2.out.below hn)
        try replace U := Lib.hid (U.out.below hn)
        replace HB := Lib.hid (HB.out.trans (hn.mono HB.out.size))
        have Q := Lib.hid hvy
        have R := Lib.hid hvw
        clear hvy hvw
        clear hbx hn)
     | (go_at_call 14; with_reducible refine (floor_is (S1.out.below (grow1d W (.cells #[.bool false, .slice none 0 0] 25))) ((U.out.below (grow1d W (.cells #[.bool false, .slice none 0 0] 25))).rds Z2.out.abs) HK.out.1 HK.out.2 HZ.out HQ.out HR.out).mono ?_; rintro e wx ⟨⟨ux, uy, rfl, hvx, hvz⟩, hbx⟩; obtain ⟨AQ, AQn, AQc, rfl, hvy⟩ := hvx.open_; obtain ⟨dq, dqh⟩ : ∃ dq, decide (fq < 0) = dq := ⟨_, rfl⟩; rw [dqh] at hvy ⊢; obtain ⟨AR, ARn, ARc, rfl, hvw⟩ := hvz.open_; obtain ⟨dr, drh⟩ : ∃ dr, decide (m < 0) = dr := ⟨_, rfl⟩; rw [drh] at hvw ⊢; clear hvx hvz dqh drh
        have T0P := T0l
        have T1P := T1l
        have T2P := T2l
        try have N1P := N1l
        have hn := Below.trans (grow1d W (.cells #[.bool false, .slice none 0 0] 25)) (hbx.mono (Below.size (grow1d W (.cells #[.bool false, .slice none 0 0] 25))))
        try replace N1 := Lib.hid (N1.out.keep hn)
        try replace N2 := Lib.hid (N2.out.keep hn)
        first | (have _x := N1.out; have N2 := Lib.hid ((Two.made _ (.bool false) (.slice none 0 0)).drew.keep hbx); clear _x) | have N1 := Lib.hid ((Two.made _ (.bool false) (.slice none 0 0)).drew.keep hbx)
        replace T0 := Lib.hid (T0.out.keep hn)
        replace T1 := Lib.hid (T1.out.keep hn)
        replace T2 := Lib.hid (T2.out.keep hn)
        replace T0l := T0.out.lt
        replace T1l := T1.out.lt
        replace T2l := T2.out.lt
        replace T0a := T0.out.c0
        replace T0b := T0.out.c1
        replace T1a := T1.out.c0
        replace T1b := T1.out.c1
        try (have N1a := N1.out.c0; have N1b := N1.out.c1; have N1f := N1.out.fz 0; have N1g := N1.out.fz 1; have N1l := N1.out.lt)
        try (have N2a := N2.out.c0; have N2b := N2.out.c1; have N2f := N2.out.fz 0; have N2g := N2.out.fz 1; have N2l := N2.out.lt)
        replace S1 := Lib.hid (S1.out.below hn)
        replace S2 := Lib.hid (S2.out.below hn)
        try replace U := Lib.hid (U.out.below hn)
        replace HB := Lib.hid (HB.out.trans (hn.mono HB.out.size))
        have Q := Lib.hid hvy
        have R := Lib.hid hvw
        clear hvy hvw
        clear hbx hn)
     | (go_at_call 14; with_reducible refine (floor_is (S1.out.below (grow2d W (.cells #[.bool false, .slice none 0 0] 25) (.cells #[.bool false, .slice none 0 0] 25))) ((U.out.below (grow2d W (.cells #[.bool false, .slice none 0 0] 25) (.cells #[.bool false, .slice none 0 0] 25))).rds Z2.out.abs) HK.out.1 HK.out.2 HZ.out HQ.out HR.out).mono ?_; rintro e wx ⟨⟨ux, uy, rfl, hvx, hvz⟩, hbx⟩; obtain ⟨AQ, AQn, AQc, rfl, hvy⟩ := hvx.open_; obtain ⟨dq, dqh⟩ : ∃ dq, decide (fq < 0) = dq := ⟨_, rfl⟩; rw [dqh] at hvy ⊢; obtain ⟨AR, ARn, ARc, rfl, hvw⟩ := hvz.open_; obtain ⟨dr, drh⟩ : ∃ dr, decide (m < 0) = dr := ⟨_, rfl⟩; rw [drh] at hvw ⊢; clear hvx hvz dqh drh
        have T0P := T0l
        have T1P := T1l
        have T2P := T2l
        try have N1P := N1l
        have hn := Below.trans (grow2d W (.cells #[.bool false, .slice none 0 0] 25) (.cells #[.bool false, .slice none 0 0] 25)) (hbx.mono (Below.size (grow2d W (.cells #[.bool false, .slice none 0 0] 25) (.cells #[.bool false, .slice none 0 0] 25))))
        try replace N1 := Lib.hid (N1.out.keep hn)
        try replace N2 := Lib.hid (N2.out.keep hn)
        have N1 := Lib.hid (((Two.made _ (.bool false) (.slice none 0 0)).alloc (.cells #[.bool false, .slice none 0 0] 25)).drew.keep hbx)
        have N2 := Lib.hid ((Two.made2 _ (.cells #[.bool false, .slice none 0 0] 25) (.bool false) (.slice none 0 0)).drew.keep hbx)
        replace T0 := Lib.hid (T0.out.keep hn)
        replace T1 := Lib.hid (T1.out.keep hn)
        replace T2 := Lib.hid (T2.out.keep hn)
        replace T0l := T0.out.lt
        replace T1l := T1.out.lt
        replace T2l := T2.out.lt
        replace T0a := T0.out.c0
        replace T0b := T0.out.c1
        replace T1a := T1.out.c0
        replace T1b := T1.out.c1
        try (have N1a := N1.out.c0; have N1b := N1.out.c1; have N1f := N1.out.fz 0; have N1g := N1.out.fz 1; have N1l := N1.out.lt)
        try (have N2a := N2.out.c0; have N2b := N2.out.c1; have N2f := N2.out.fz 0; have N2g := N2.out.fz 1; have N2l := N2.out.lt)
        replace S1 := Lib.hid (S1.out.below hn)
        replace S2 := Lib.hid (S2.out.below hn)
        try replace U := Lib.hid (U.out.below hn)
        replace HB := Lib.hid (HB.out.trans (hn.mono HB.out.size))
        have Q := Lib.hid hvy
        have R := Lib.hid hvw
        clear hvy hvw
        clear hbx hn))
  all_goals
    rename_i hH
    clear hH
    refine with_facts_at 7 rfl (fun g0 F => Two F (w.heap.size + 1 + 1) (.bool false) (.slice none 0 0) ∧ Two F g0 (.bool dr) (.slice AR ARn ARc) ∧ In F (.agg #[.bool dr, .slice AR ARn ARc]) m ∧ Below w.heap.size w F) ?fa ?fk
    case fa => refine ⟨?_, ?_, ?_, ?_⟩ <;> (repeat (first | with_reducible exact T2.out | with_reducible exact N1.out | with_reducible exact N2.out | with_reducible exact R.out | with_reducible exact HB.out | with_reducible exact Bs.of N1.out | with_reducible exact Bs.of N2.out | with_reducible exact Bs.of T2.out | with_reducible refine Two.st ?_ _ _ | (with_reducible refine Two.ot ?_ ?hne _ _; case hne => omega) | (with_reducible refine Two.mk' ?_ _ _; (first | with_reducible rfl | omega | (simp; done))) | with_reducible refine Two.alloc ?_ _ | with_reducible refine Bs.same ?_ _ _ _ _ | (with_reducible refine Bs.ot ?_ ?hne _ _; case hne => omega) | (with_reducible refine Bs.mk' ?_ _ _ _ _; (first | with_reducible rfl | omega | (simp; done))) | with_reducible refine Bs.al ?_ _ | with_reducible refine In.st ?_ ?_ _ _ | with_reducible refine In.al ?_ _ | with_reducible refine Rd.st ?_ ?_ _ _ | with_reducible refine Rd.al ?_ _ | (with_reducible refine Below.st ?_ ?hne _ _; case hne => omega) | with_reducible refine Below.al ?_ _))
    case fk =>
      intro F hF
      obtain ⟨T2p, T4p, Rp, HBp⟩ := hF
      replace T2 := Lib.hid T2p
      clear T2p
      have T4 := Lib.hid T4p
      clear T4p
      replace R := Lib.hid Rp
      clear Rp
      replace HB := Lib.hid HBp
      clear HBp
      have T2a := T2.out.c0
      have T2b := T2.out.c1
      have T2f := T2.out.fz 0
      have T2g := T2.out.fz 1
      have T4a := T4.out.c0
      have T4b := T4.out.c1
      have T4f := T4.out.fz 0
      have T4g := T4.out.fz 1
      go_wp2_with fail
      clear T4
      clear T2a T2b T2f T2g T4a T4b T4f T4g
      generalize hs2 : World.setCell (World.setCell F _ _) _ _ = ws1
      replace R := Lib.hid (R.out.stored T2.out (.bool dr) (.slice AR ARn ARc))
      rw [hs2] at R
      replace HB := Lib.hid (T2.out.grow HB.out (by omega) (.bool dr) (.slice AR ARn ARc))
      rw [hs2] at HB
      replace T2 := Lib.hid (T2.out.store (.bool dr) (.slice AR ARn ARc))
      rw [hs2] at T2
      clear hs2
      have T2a := T2.out.c0
      have T2b := T2.out.c1
      have T2f := T2.out.fz 0
      have T2g := T2.out.fz 1
      exact bodyPost_ret (v := .tuple #[.agg #[.bool dr, .slice AR ARn ARc], .int .i64 0]) (by simp [results, Try.results16, go_sem, T2a, T2b]) rfl ⟨⟨_, rfl, R.out⟩, HB.out⟩

end Go.Proofs.Ytgmooidagkbheaa
