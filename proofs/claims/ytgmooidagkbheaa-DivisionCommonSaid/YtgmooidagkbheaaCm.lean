/-
  cylinderlaw03.DivisionCommon returns true: Gcd is commutative and associative, and a common factor can be taken out.
-/
import Derived.Test.YtgmooidagkbheaaGcp
import Derived.Deep.DeepCutAuto
namespace Go.Proofs.Ytgmooidagkbheaa.common
open Go.RowKit Go.Proofs.YtgmooidagkbheaaW.PrintWords
set_option linter.unusedVariables false

set_option maxHeartbeats 8000000 in
set_option maxRecDepth 100000 in
theorem few_no (v1 v2 v3 : Value) (g1 g2 g3 : Bool) (l1 l2 l3 : List Nat) (w : World) (h1 : Iv w v1 g1 l1) (h2 : Iv w v2 g2 l2) (h3 : Iv w v3 g3 l3) (hf : few3 5 l1.length l2.length l3.length = false) :
    Calls Try.prog 5 #[v1, v2, v3] w fun e w' => e = .returned (.bool true) ∧ Below w.heap.size w w' := by
  obtain ⟨A1, c1, rfl, _, _, hs1⟩ := h1.open_
  obtain ⟨A2, c2, rfl, _, _, hs2⟩ := h2.open_
  obtain ⟨A3, c3, rfl, _, _, hs3⟩ := h3.open_
  have hbx := boxes3g w (.bool g1) (.slice A1 l1.length c1) (.bool g2) (.slice A2 l2.length c2) (.bool g3) (.slice A3 l3.length c3)
  generalize hW : ((w.alloc (.cells #[.bool g1, .slice A1 l1.length c1] 25)).alloc (.cells #[.bool g2, .slice A2 l2.length c2] 25)).alloc (.cells #[.bool g3, .slice A3 l3.length c3] 25) = W at hbx
  obtain ⟨hbw, ht0, ht1, ht2⟩ := hbx
  have T0 := Lib.hid ht0
  have T1 := Lib.hid ht1
  have T2 := Lib.hid ht2
  have I1 := Lib.hid (h1.below hbw)
  have I2 := Lib.hid (h2.below hbw)
  have I3 := Lib.hid (h3.below hbw)
  have HB := Lib.hid hbw
  have HW := Lib.hid hW
  have HFE := Lib.hid hf
  clear h1 h2 h3 hs1 hs2 hs3 hbw ht0 ht1 ht2 hW hf
  have T0a := T0.out.c0
  have T0b := T0.out.c1
  have T1a := T1.out.c0
  have T1b := T1.out.c1
  have T2a := T2.out.c0
  have T2b := T2.out.c1
  go_enter Try.func5, Try.ntmps5
  go_wp2_with fail
  rw [HW.out]
  have HC1 := awake_calls W
  refine (HC1).mono ?_
  rintro e wc2 ⟨rfl, hb3⟩
  clear HC1
  clear T0a T0b T1a T1b T2a T2b
  replace T0 := Lib.hid (T0.out.keep hb3)
  replace T1 := Lib.hid (T1.out.keep hb3)
  replace T2 := Lib.hid (T2.out.keep hb3)
  replace I1 := Lib.hid (I1.out.below hb3)
  replace I2 := Lib.hid (I2.out.below hb3)
  replace I3 := Lib.hid (I3.out.below hb3)
  replace HB := Lib.hid (HB.out.trans (hb3.mono HB.out.size))
  clear hb3
  have T0a := T0.out.c0
  have T0b := T0.out.c1
  have T1a := T1.out.c0
  have T1b := T1.out.c1
  have T2a := T2.out.c0
  have T2b := T2.out.c1
  go_wp2_with fail
  have HC4 := few_is 5 I1.out I2.out I3.out HFE.out
  refine (HC4).mono ?_
  rintro e wc5 ⟨rfl, hb6⟩
  clear HC4
  clear T0a T0b T1a T1b T2a T2b
  replace T0 := Lib.hid (T0.out.keep hb6)
  replace T1 := Lib.hid (T1.out.keep hb6)
  replace T2 := Lib.hid (T2.out.keep hb6)
  replace I1 := Lib.hid (I1.out.below hb6)
  replace I2 := Lib.hid (I2.out.below hb6)
  replace I3 := Lib.hid (I3.out.below hb6)
  replace HB := Lib.hid (HB.out.trans (hb6.mono HB.out.size))
  clear hb6
  have T0a := T0.out.c0
  have T0b := T0.out.c1
  have T1a := T1.out.c0
  have T1b := T1.out.c1
  have T2a := T2.out.c0
  have T2b := T2.out.c1
  go_wp2_with fail
  have HC7 := awake_calls wc5
  refine (HC7).mono ?_
  rintro e wc8 ⟨rfl, hb9⟩
  clear HC7
  clear T0a T0b T1a T1b T2a T2b
  replace T0 := Lib.hid (T0.out.keep hb9)
  replace T1 := Lib.hid (T1.out.keep hb9)
  replace T2 := Lib.hid (T2.out.keep hb9)
  replace I1 := Lib.hid (I1.out.below hb9)
  replace I2 := Lib.hid (I2.out.below hb9)
  replace I3 := Lib.hid (I3.out.below hb9)
  replace HB := Lib.hid (HB.out.trans (hb9.mono HB.out.size))
  clear hb9
  go_wp2_with fail
  go_ret
  exact ⟨rfl, HB.out⟩

set_option maxHeartbeats 8000000 in
set_option maxRecDepth 100000 in
theorem main (v1 v2 v3 : Value) (g1 g2 g3 : Bool) (l1 l2 l3 : List Nat) (w : World) (h1 : Iv w v1 g1 l1) (h2 : Iv w v2 g2 l2) (h3 : Iv w v3 g3 l3) (hf : few3 5 l1.length l2.length l3.length = true) :
    Calls Try.prog 5 #[v1, v2, v3] w fun e w' => e = .returned (.bool true) ∧ Below w.heap.size w w' := by
  obtain ⟨A1, c1, rfl, _, _, hs1⟩ := h1.open_
  obtain ⟨A2, c2, rfl, _, _, hs2⟩ := h2.open_
  obtain ⟨A3, c3, rfl, _, _, hs3⟩ := h3.open_
  have hbx := boxes3g w (.bool g1) (.slice A1 l1.length c1) (.bool g2) (.slice A2 l2.length c2) (.bool g3) (.slice A3 l3.length c3)
  generalize hW : ((w.alloc (.cells #[.bool g1, .slice A1 l1.length c1] 25)).alloc (.cells #[.bool g2, .slice A2 l2.length c2] 25)).alloc (.cells #[.bool g3, .slice A3 l3.length c3] 25) = W at hbx
  obtain ⟨hbw, ht0, ht1, ht2⟩ := hbx
  have T0 := Lib.hid ht0
  have T1 := Lib.hid ht1
  have T2 := Lib.hid ht2
  have I1 := Lib.hid (h1.below hbw)
  have I2 := Lib.hid (h2.below hbw)
  have I3 := Lib.hid (h3.below hbw)
  have HB := Lib.hid hbw
  have HW := Lib.hid hW
  have HFE := Lib.hid hf
  clear h1 h2 h3 hs1 hs2 hs3 hbw ht0 ht1 ht2 hW hf
  have hl := few3_true HFE.out
  have S1 := Lib.hid (I1.out.rd hl.1)
  have S2 := Lib.hid (I2.out.rd hl.2.1)
  have S3 := Lib.hid (I3.out.rd hl.2.2)
  have Z1 := Lib.hid S1.out.sz
  have Z2 := Lib.hid S2.out.sz
  have Z3 := Lib.hid S3.out.sz
  generalize iz g1 l1 = a at *
  generalize iz g2 l2 = b at *
  generalize iz g3 l3 = c at *
  obtain ⟨g, hg⟩ : ∃ g, ((Int.gcd a b : Nat) : Int) = g := ⟨_, rfl⟩
  obtain ⟨x, hx⟩ : ∃ x, ((Int.gcd b c : Nat) : Int) = x := ⟨_, rfl⟩
  obtain ⟨y, hy⟩ : ∃ y, ((Int.gcd a x : Nat) : Int) = y := ⟨_, rfl⟩
  have E1 : Hid (((Int.gcd (a * c) (b * c) : Nat) : Int) = g * (c.natAbs : Int)) := Lib.hid (by rw [Int.gcd_mul_right, ← hg]; exact Int.natCast_mul _ _)
  have E2 : Hid (((Int.gcd b a : Nat) : Int) = g) := Lib.hid (by rw [Int.gcd_comm]; exact hg)
  have E3 : Hid (((Int.gcd g c : Nat) : Int) = y) := Lib.hid (by rw [← hy, ← hx, ← hg, Int.gcd_assoc])
  have E4 : Hid (((Int.gcd a 0 : Nat) : Int) = (a.natAbs : Int)) := Lib.hid (by rw [Int.gcd_zero_right])
  have E5 : Hid (((Int.gcd (-a) b : Nat) : Int) = g) := Lib.hid (by rw [Int.neg_gcd]; exact hg)
  have ZG : Hid (Sz 5 g) := Lib.hid (by rw [← hg]; exact Z1.out.gcd Z2.out)
  have ZX : Hid (Sz 5 x) := Lib.hid (by rw [← hx]; exact Z2.out.gcd Z3.out)
  have ZY : Hid (Sz 5 y) := Lib.hid (by rw [← hy]; exact Z1.out.gcd ZX.out)
  have HG := Lib.hid hg
  have HX := Lib.hid hx
  have HY := Lib.hid hy
  clear hl hg hx hy
  have T0a := T0.out.c0
  have T0b := T0.out.c1
  have T1a := T1.out.c0
  have T1b := T1.out.c1
  have T2a := T2.out.c0
  have T2b := T2.out.c1
  go_enter Try.func5, Try.ntmps5
  go_wp2_with fail
  rw [HW.out]
  have HC1 := awake_calls W
  refine (HC1).mono ?_
  rintro e wc2 ⟨rfl, hb3⟩
  clear HC1
  clear T0a T0b T1a T1b T2a T2b
  replace T0 := Lib.hid (T0.out.keep hb3)
  replace T1 := Lib.hid (T1.out.keep hb3)
  replace T2 := Lib.hid (T2.out.keep hb3)
  replace I1 := Lib.hid (I1.out.below hb3)
  replace I2 := Lib.hid (I2.out.below hb3)
  replace I3 := Lib.hid (I3.out.below hb3)
  replace S1 := Lib.hid (S1.out.below hb3)
  replace S2 := Lib.hid (S2.out.below hb3)
  replace S3 := Lib.hid (S3.out.below hb3)
  replace HB := Lib.hid (HB.out.trans (hb3.mono HB.out.size))
  clear hb3
  have T0a := T0.out.c0
  have T0b := T0.out.c1
  have T1a := T1.out.c0
  have T1b := T1.out.c1
  have T2a := T2.out.c0
  have T2b := T2.out.c1
  go_wp2_with fail
  have HC4 := few_is 5 I1.out I2.out I3.out HFE.out
  refine (HC4).mono ?_
  rintro e wc5 ⟨rfl, hb6⟩
  clear HC4
  clear T0a T0b T1a T1b T2a T2b
  replace T0 := Lib.hid (T0.out.keep hb6)
  replace T1 := Lib.hid (T1.out.keep hb6)
  replace T2 := Lib.hid (T2.out.keep hb6)
  replace I1 := Lib.hid (I1.out.below hb6)
  replace I2 := Lib.hid (I2.out.below hb6)
  replace I3 := Lib.hid (I3.out.below hb6)
  replace S1 := Lib.hid (S1.out.below hb6)
  replace S2 := Lib.hid (S2.out.below hb6)
  replace S3 := Lib.hid (S3.out.below hb6)
  replace HB := Lib.hid (HB.out.trans (hb6.mono HB.out.size))
  clear hb6
  clear I1 I2 I3 HFE
  have T0a := T0.out.c0
  have T0b := T0.out.c1
  have T1a := T1.out.c0
  have T1b := T1.out.c1
  have T2a := T2.out.c0
  have T2b := T2.out.c1
  go_wp2_with fail
  have HC7 := gcd_is S1.out S2.out (by decide) (by decide) HG.out
  refine (HC7).mono ?_
  rintro e wc8 ⟨⟨u, rfl, hv10⟩, hb9⟩
  clear HC7
  obtain ⟨AG, AGn, AGc, rfl, hv10o⟩ := hv10.open_
  obtain ⟨dg, dgh⟩ : ∃ dg, decide (g < 0) = dg := ⟨_, rfl⟩
  rw [dgh] at hv10o ⊢
  clear hv10 dgh
  clear T0a T0b T1a T1b T2a T2b
  replace T0 := Lib.hid (T0.out.keep hb9)
  replace T1 := Lib.hid (T1.out.keep hb9)
  replace T2 := Lib.hid (T2.out.keep hb9)
  replace S1 := Lib.hid (S1.out.below hb9)
  replace S2 := Lib.hid (S2.out.below hb9)
  replace S3 := Lib.hid (S3.out.below hb9)
  replace HB := Lib.hid (HB.out.trans (hb9.mono HB.out.size))
  clear hb9
  have G := Lib.hid (hv10o)
  clear hv10o
  go_upto_region 4 with (fail)
  generalize ha12 : World.alloc (wc8) _ = wa11
  have hb13 : Below wc8.heap.size wc8 wa11 := by rw [← ha12]; exact (Below.refl _ _).alloc (Nat.le_refl _) _
  have T3 : Hid (Two wa11 (wc8.heap.size) (.bool dg) (.slice AG AGn AGc)) := Lib.hid (by rw [← ha12]; exact Two.made _ _ _)
  clear ha12
  replace T0 := Lib.hid (T0.out.keep hb13)
  replace T1 := Lib.hid (T1.out.keep hb13)
  replace T2 := Lib.hid (T2.out.keep hb13)
  replace S1 := Lib.hid (S1.out.below hb13)
  replace S2 := Lib.hid (S2.out.below hb13)
  replace S3 := Lib.hid (S3.out.below hb13)
  replace G := Lib.hid (G.out.below hb13)
  replace HB := Lib.hid (HB.out.trans (hb13.mono HB.out.size))
  clear hb13
  go_cut [8] (fun s8 wx => ∃ (gb0 : Nat) (dO : Bool) (AO : Option Addr) (AOn AOc : Nat), s8 = .pointer (some ⟨gb0, 0, none⟩) ∧ Two wx gb0 (.bool dO) (.slice AO AOn AOc) ∧ In wx (.agg #[.bool dO, .slice AO AOn AOc]) (g * (c.natAbs : Int)) ∧ Two wx (w.heap.size) (.bool g1) (.slice A1 l1.length c1) ∧ Two wx (w.heap.size + 1) (.bool g2) (.slice A2 l2.length c2) ∧ Two wx (w.heap.size + 1 + 1) (.bool g3) (.slice A3 l3.length c3) ∧ Two wx (wc8.heap.size) (.bool dg) (.slice AG AGn AGc) ∧ Rd wx (.agg #[.bool g1, .slice A1 l1.length c1]) a 5 ∧ Rd wx (.agg #[.bool g2, .slice A2 l2.length c2]) b 5 ∧ Rd wx (.agg #[.bool g3, .slice A3 l3.length c3]) c 5 ∧ In wx (.agg #[.bool dg, .slice AG AGn AGc]) g ∧ Below w.heap.size w wx)
  case first =>
    have T0wa := T0.out.c0
    have T0wb := T0.out.c1
    have T1wa := T1.out.c0
    have T1wb := T1.out.c1
    have T2wa := T2.out.c0
    have T2wb := T2.out.c1
    replace T0 := Lib.hid T0.out.drew
    replace T1 := Lib.hid T1.out.drew
    replace T2 := Lib.hid T2.out.drew
    replace T3 := Lib.hid T3.out.drew
    replace S1 := Lib.hid S1.out.drew
    replace S2 := Lib.hid S2.out.drew
    replace S3 := Lib.hid S3.out.drew
    replace G := Lib.hid G.out.drew
    replace HB := Lib.hid (below_drewN HB.out 1)
    have T0O := T0.out.lt
    have T0l := T0.out.lt
    have T1O := T1.out.lt
    have T1l := T1.out.lt
    have T2O := T2.out.lt
    have T2l := T2.out.lt
    have T3O := T3.out.lt
    have T3l := T3.out.lt
    simp only [World.drew] at T0O T0l T1O T1l T2O T2l T3O T3l
    have T0a := T0.out.c0
    have T0b := T0.out.c1
    have T1a := T1.out.c0
    have T1b := T1.out.c1
    have T2a := T2.out.c0
    have T2b := T2.out.c1
    go_region_held3 (fun w' => w'.cell? ⟨w.heap.size, 0, none⟩ = some (.bool g1) ∧ w'.cell? ⟨w.heap.size, 1, none⟩ = some (.slice A1 l1.length c1) ∧ w'.cell? ⟨w.heap.size + 1, 0, none⟩ = some (.bool g2) ∧ w'.cell? ⟨w.heap.size + 1, 1, none⟩ = some (.slice A2 l2.length c2) ∧ w'.cell? ⟨w.heap.size + 1 + 1, 0, none⟩ = some (.bool g3) ∧ w'.cell? ⟨w.heap.size + 1 + 1, 1, none⟩ = some (.slice A3 l3.length c3))
      ((first | (refine ⟨?_, ?_, ?_, ?_, ?_, ?_⟩ <;> (with_reducible assumption)) | (refine ⟨?_, ?_, ?_, ?_, ?_, ?_⟩ <;> (repeat (first | (with_reducible assumption) | rw [two_cell _ _ _ _ _ _ (by omega)] | rw [cell_drew] | rw [cell_grow _ _ _ _ (by first | omega | (simp; omega))])))))
      (first
       | (go_at_call 29; with_reducible refine (imul_rd S1.out S3.out (by decide) (by decide) (Or.inl (by decide))).mono ?_; rintro e wx ⟨⟨ux, rfl, hvx⟩, hbx⟩; obtain ⟨AP, APn, APc, rfl, hvy⟩ := hvx.open_; obtain ⟨dp, dph⟩ : ∃ dp, decide ((a * c) < 0) = dp := ⟨_, rfl⟩; rw [dph] at hvy ⊢; clear hvx dph
          have hn := hbx
          try replace N1 := Lib.hid (N1.out.keep hn)
          try replace N2 := Lib.hid (N2.out.keep hn)
          replace T0 := Lib.hid (T0.out.keep hn)
          replace T1 := Lib.hid (T1.out.keep hn)
          replace T2 := Lib.hid (T2.out.keep hn)
          replace T3 := Lib.hid (T3.out.keep hn)
          replace T0l := T0.out.lt
          replace T1l := T1.out.lt
          replace T2l := T2.out.lt
          replace T3l := T3.out.lt
          replace T0a := T0.out.c0
          replace T0b := T0.out.c1
          replace T1a := T1.out.c0
          replace T1b := T1.out.c1
          replace T2a := T2.out.c0
          replace T2b := T2.out.c1
          try (have N1a := N1.out.c0; have N1b := N1.out.c1; have N1f := N1.out.fz 0; have N1g := N1.out.fz 1; have N1l := N1.out.lt)
          try (have N2a := N2.out.c0; have N2b := N2.out.c1; have N2f := N2.out.fz 0; have N2g := N2.out.fz 1; have N2l := N2.out.lt)
          replace S1 := Lib.hid (S1.out.below hn)
          replace S2 := Lib.hid (S2.out.below hn)
          replace S3 := Lib.hid (S3.out.below hn)
          replace G := Lib.hid (G.out.below hn)
          try replace P1 := Lib.hid (P1.out.below hn)
          try replace P2 := Lib.hid (P2.out.below hn)
          try replace O := Lib.hid (O.out.below hn)
          replace HB := Lib.hid (HB.out.trans (hn.mono HB.out.size))
          have P1 := Lib.hid hvy
          clear hvy
          clear hbx hn)
       | (go_at_call 29; with_reducible refine (imul_rd (S1.out.below (grow1 _ (.cells #[.bool false, .slice none 0 0] 25))) (S3.out.below (grow1 _ (.cells #[.bool false, .slice none 0 0] 25))) (by decide) (by decide) (Or.inl (by decide))).mono ?_; rintro e wx ⟨⟨ux, rfl, hvx⟩, hbx⟩; obtain ⟨AP, APn, APc, rfl, hvy⟩ := hvx.open_; obtain ⟨dp, dph⟩ : ∃ dp, decide ((a * c) < 0) = dp := ⟨_, rfl⟩; rw [dph] at hvy ⊢; clear hvx dph
          have T0P := T0l
          have T1P := T1l
          have T2P := T2l
          have T3P := T3l
          try have N1P := N1l
          have hn := Below.trans (grow1 _ (.cells #[.bool false, .slice none 0 0] 25)) (hbx.mono (Below.size (grow1 _ (.cells #[.bool false, .slice none 0 0] 25))))
          try replace N1 := Lib.hid (N1.out.keep hn)
          try replace N2 := Lib.hid (N2.out.keep hn)
          first | (have _x := N1.out; have N2 := Lib.hid ((Two.made _ (.bool false) (.slice none 0 0)).keep hbx); clear _x) | have N1 := Lib.hid ((Two.made _ (.bool false) (.slice none 0 0)).keep hbx)
          replace T0 := Lib.hid (T0.out.keep hn)
          replace T1 := Lib.hid (T1.out.keep hn)
          replace T2 := Lib.hid (T2.out.keep hn)
          replace T3 := Lib.hid (T3.out.keep hn)
          replace T0l := T0.out.lt
          replace T1l := T1.out.lt
          replace T2l := T2.out.lt
          replace T3l := T3.out.lt
          replace T0a := T0.out.c0
          replace T0b := T0.out.c1
          replace T1a := T1.out.c0
          replace T1b := T1.out.c1
          replace T2a := T2.out.c0
          replace T2b := T2.out.c1
          try (have N1a := N1.out.c0; have N1b := N1.out.c1; have N1f := N1.out.fz 0; have N1g := N1.out.fz 1; have N1l := N1.out.lt)
          try (have N2a := N2.out.c0; have N2b := N2.out.c1; have N2f := N2.out.fz 0; have N2g := N2.out.fz 1; have N2l := N2.out.lt)
          replace S1 := Lib.hid (S1.out.below hn)
          replace S2 := Lib.hid (S2.out.below hn)
          replace S3 := Lib.hid (S3.out.below hn)
          replace G := Lib.hid (G.out.below hn)
          try replace P1 := Lib.hid (P1.out.below hn)
          try replace P2 := Lib.hid (P2.out.below hn)
          try replace O := Lib.hid (O.out.below hn)
          replace HB := Lib.hid (HB.out.trans (hn.mono HB.out.size))
          have P1 := Lib.hid hvy
          clear hvy
          clear hbx hn)
       | (go_at_call 29; with_reducible refine (imul_rd (S1.out.below (grow1d wa11 (.cells #[.bool false, .slice none 0 0] 25))) (S3.out.below (grow1d wa11 (.cells #[.bool false, .slice none 0 0] 25))) (by decide) (by decide) (Or.inl (by decide))).mono ?_; rintro e wx ⟨⟨ux, rfl, hvx⟩, hbx⟩; obtain ⟨AP, APn, APc, rfl, hvy⟩ := hvx.open_; obtain ⟨dp, dph⟩ : ∃ dp, decide ((a * c) < 0) = dp := ⟨_, rfl⟩; rw [dph] at hvy ⊢; clear hvx dph
          have T0P := T0l
          have T1P := T1l
          have T2P := T2l
          have T3P := T3l
          try have N1P := N1l
          have hn := Below.trans (grow1d wa11 (.cells #[.bool false, .slice none 0 0] 25)) (hbx.mono (Below.size (grow1d wa11 (.cells #[.bool false, .slice none 0 0] 25))))
          try replace N1 := Lib.hid (N1.out.keep hn)
          try replace N2 := Lib.hid (N2.out.keep hn)
          first | (have _x := N1.out; have N2 := Lib.hid ((Two.made _ (.bool false) (.slice none 0 0)).drew.keep hbx); clear _x) | have N1 := Lib.hid ((Two.made _ (.bool false) (.slice none 0 0)).drew.keep hbx)
          replace T0 := Lib.hid (T0.out.keep hn)
          replace T1 := Lib.hid (T1.out.keep hn)
          replace T2 := Lib.hid (T2.out.keep hn)
          replace T3 := Lib.hid (T3.out.keep hn)
          replace T0l := T0.out.lt
          replace T1l := T1.out.lt
          replace T2l := T2.out.lt
          replace T3l := T3.out.lt
          replace T0a := T0.out.c0
          replace T0b := T0.out.c1
          replace T1a := T1.out.c0
          replace T1b := T1.out.c1
          replace T2a := T2.out.c0
          replace T2b := T2.out.c1
          try (have N1a := N1.out.c0; have N1b := N1.out.c1; have N1f := N1.out.fz 0; have N1g := N1.out.fz 1; have N1l := N1.out.lt)
          try (have N2a := N2.out.c0; have N2b := N2.out.c1; have N2f := N2.out.fz 0; have N2g := N2.out.fz 1; have N2l := N2.out.lt)
          replace S1 := Lib.hid (S1.out.below hn)
          replace S2 := Lib.hid (S2.out.below hn)
          replace S3 := Lib.hid (S3.out.below hn)
          replace G := Lib.hid (G.out.below hn)
          try replace P1 := Lib.hid (P1.out.below hn)
          try replace P2 := Lib.hid (P2.out.below hn)
          try replace O := Lib.hid (O.out.below hn)
          replace HB := Lib.hid (HB.out.trans (hn.mono HB.out.size))
          have P1 := Lib.hid hvy
          clear hvy
          clear hbx hn)
       | (go_at_call 29; with_reducible refine (imul_rd S2.out S3.out (by decide) (by decide) (Or.inl (by decide))).mono ?_; rintro e wx ⟨⟨ux, rfl, hvx⟩, hbx⟩; obtain ⟨AQ, AQn, AQc, rfl, hvy⟩ := hvx.open_; obtain ⟨dq, dqh⟩ : ∃ dq, decide ((b * c) < 0) = dq := ⟨_, rfl⟩; rw [dqh] at hvy ⊢; clear hvx dqh
          have hn := hbx
          try replace N1 := Lib.hid (N1.out.keep hn)
          try replace N2 := Lib.hid (N2.out.keep hn)
          replace T0 := Lib.hid (T0.out.keep hn)
          replace T1 := Lib.hid (T1.out.keep hn)
          replace T2 := Lib.hid (T2.out.keep hn)
          replace T3 := Lib.hid (T3.out.keep hn)
          replace T0l := T0.out.lt
          replace T1l := T1.out.lt
          replace T2l := T2.out.lt
          replace T3l := T3.out.lt
          replace T0a := T0.out.c0
          replace T0b := T0.out.c1
          replace T1a := T1.out.c0
          replace T1b := T1.out.c1
          replace T2a := T2.out.c0
          replace T2b := T2.out.c1
          try (have N1a := N1.out.c0; have N1b := N1.out.c1; have N1f := N1.out.fz 0; have N1g := N1.out.fz 1; have N1l := N1.out.lt)
          try (have N2a := N2.out.c0; have N2b := N2.out.c1; have N2f := N2.out.fz 0; have N2g := N2.out.fz 1; have N2l := N2.out.lt)
          replace S1 := Lib.hid (S1.out.below hn)
          replace S2 := Lib.hid (S2.out.below hn)
          replace S3 := Lib.hid (S3.out.below hn)
          replace G := Lib.hid (G.out.below hn)
          try replace P1 := Lib.hid (P1.out.below hn)
          try replace P2 := Lib.hid (P2.out.below hn)
          try replace O := Lib.hid (O.out.below hn)
          replace HB := Lib.hid (HB.out.trans (hn.mono HB.out.size))
          have P2 := Lib.hid hvy
          clear hvy
          clear hbx hn)
       | (go_at_call 29; with_reducible refine (imul_rd (S2.out.below (grow1 _ (.cells #[.bool false, .slice none 0 0] 25))) (S3.out.below (grow1 _ (.cells #[.bool false, .slice none 0 0] 25))) (by decide) (by decide) (Or.inl (by decide))).mono ?_; rintro e wx ⟨⟨ux, rfl, hvx⟩, hbx⟩; obtain ⟨AQ, AQn, AQc, rfl, hvy⟩ := hvx.open_; obtain ⟨dq, dqh⟩ : ∃ dq, decide ((b * c) < 0) = dq := ⟨_, rfl⟩; rw [dqh] at hvy ⊢; clear hvx dqh
          have T0P := T0l
          have T1P := T1l
          have T2P := T2l
          have T3P := T3l
          try have N1P := N1l
          have hn := Below.trans (grow1 _ (.cells #[.bool false, .slice none 0 0] 25)) (hbx.mono (Below.size (grow1 _ (.cells #[.bool false, .slice none 0 0] 25))))
          try replace N1 := Lib.hid (N1.out.keep hn)
          try replace N2 := Lib.hid (N2.out.keep hn)
          first | (have _x := N1.out; have N2 := Lib.hid ((Two.made _ (.bool false) (.slice none 0 0)).keep hbx); clear _x) | have N1 := Lib.hid ((Two.made _ (.bool false) (.slice none 0 0)).keep hbx)
          replace T0 := Lib.hid (T0.out.keep hn)
          replace T1 := Lib.hid (T1.out.keep hn)
          replace T2 := Lib.hid (T2.out.keep hn)
          replace T3 := Lib.hid (T3.out.keep hn)
          replace T0l := T0.out.lt
          replace T1l := T1.out.lt
          replace T2l := T2.out.lt
          replace T3l := T3.out.lt
          replace T0a := T0.out.c0
          replace T0b := T0.out.c1
          replace T1a := T1.out.c0
          replace T1b := T1.out.c1
          replace T2a := T2.out.c0
          replace T2b := T2.out.c1
          try (have N1a := N1.out.c0; have N1b := N1.out.c1; have N1f := N1.out.fz 0; have N1g := N1.out.fz 1; have N1l := N1.out.lt)
          try (have N2a := N2.out.c0; have N2b := N2.out.c1; have N2f := N2.out.fz 0; have N2g := N2.out.fz 1; have N2l := N2.out.lt)
          replace S1 := Lib.hid (S1.out.below hn)
          replace S2 := Lib.hid (S2.out.below hn)
          replace S3 := Lib.hid (S3.out.below hn)
          replace G := Lib.hid (G.out.below hn)
          try replace P1 := Lib.hid (P1.out.below hn)
          try replace P2 := Lib.hid (P2.out.below hn)
          try replace O := Lib.hid (O.out.below hn)
          replace HB := Lib.hid (HB.out.trans (hn.mono HB.out.size))
          have P2 := Lib.hid hvy
          clear hvy
          clear hbx hn)
       | (go_at_call 29; with_reducible refine (imul_rd (S2.out.below (grow1d wa11 (.cells #[.bool false, .slice none 0 0] 25))) (S3.out.below (grow1d wa11 (.cells #[.bool false, .slice none 0 0] 25))) (by decide) (by decide) (Or.inl (by decide))).mono ?_; rintro e wx ⟨⟨ux, rfl, hvx⟩, hbx⟩; obtain ⟨AQ, AQn, AQc, rfl, hvy⟩ := hvx.open_; obtain ⟨dq, dqh⟩ : ∃ dq, decide ((b * c) < 0) = dq := ⟨_, rfl⟩; rw [dqh] at hvy ⊢; clear hvx dqh
          have T0P := T0l
          have T1P := T1l
          have T2P := T2l
          have T3P := T3l
          try have N1P := N1l
          have hn := Below.trans (grow1d wa11 (.cells #[.bool false, .slice none 0 0] 25)) (hbx.mono (Below.size (grow1d wa11 (.cells #[.bool false, .slice none 0 0] 25))))
          try replace N1 := Lib.hid (N1.out.keep hn)
          try replace N2 := Lib.hid (N2.out.keep hn)
          first | (have _x := N1.out; have N2 := Lib.hid ((Two.made _ (.bool false) (.slice none 0 0)).drew.keep hbx); clear _x) | have N1 := Lib.hid ((Two.made _ (.bool false) (.slice none 0 0)).drew.keep hbx)
          replace T0 := Lib.hid (T0.out.keep hn)
          replace T1 := Lib.hid (T1.out.keep hn)
          replace T2 := Lib.hid (T2.out.keep hn)
          replace T3 := Lib.hid (T3.out.keep hn)
          replace T0l := T0.out.lt
          replace T1l := T1.out.lt
          replace T2l := T2.out.lt
          replace T3l := T3.out.lt
          replace T0a := T0.out.c0
          replace T0b := T0.out.c1
          replace T1a := T1.out.c0
          replace T1b := T1.out.c1
          replace T2a := T2.out.c0
          replace T2b := T2.out.c1
          try (have N1a := N1.out.c0; have N1b := N1.out.c1; have N1f := N1.out.fz 0; have N1g := N1.out.fz 1; have N1l := N1.out.lt)
          try (have N2a := N2.out.c0; have N2b := N2.out.c1; have N2f := N2.out.fz 0; have N2g := N2.out.fz 1; have N2l := N2.out.lt)
          replace S1 := Lib.hid (S1.out.below hn)
          replace S2 := Lib.hid (S2.out.below hn)
          replace S3 := Lib.hid (S3.out.below hn)
          replace G := Lib.hid (G.out.below hn)
          try replace P1 := Lib.hid (P1.out.below hn)
          try replace P2 := Lib.hid (P2.out.below hn)
          try replace O := Lib.hid (O.out.below hn)
          replace HB := Lib.hid (HB.out.trans (hn.mono HB.out.size))
          have P2 := Lib.hid hvy
          clear hvy
          clear hbx hn)
       | (go_at_call 30; with_reducible refine (gcd_is (P1.out.rds (Z1.out.mul Z3.out)) (P2.out.rds (Z2.out.mul Z3.out)) (by decide) (by decide) E1.out).mono ?_; rintro e wx ⟨⟨ux, rfl, hvx⟩, hbx⟩; obtain ⟨AO, AOn, AOc, rfl, hvy⟩ := hvx.open_; obtain ⟨dO, dOh⟩ : ∃ dO, decide ((g * (c.natAbs : Int)) < 0) = dO := ⟨_, rfl⟩; rw [dOh] at hvy ⊢; clear hvx dOh
          have hn := hbx
          try replace N1 := Lib.hid (N1.out.keep hn)
          try replace N2 := Lib.hid (N2.out.keep hn)
          replace T0 := Lib.hid (T0.out.keep hn)
          replace T1 := Lib.hid (T1.out.keep hn)
          replace T2 := Lib.hid (T2.out.keep hn)
          replace T3 := Lib.hid (T3.out.keep hn)
          replace T0l := T0.out.lt
          replace T1l := T1.out.lt
          replace T2l := T2.out.lt
          replace T3l := T3.out.lt
          replace T0a := T0.out.c0
          replace T0b := T0.out.c1
          replace T1a := T1.out.c0
          replace T1b := T1.out.c1
          replace T2a := T2.out.c0
          replace T2b := T2.out.c1
          try (have N1a := N1.out.c0; have N1b := N1.out.c1; have N1f := N1.out.fz 0; have N1g := N1.out.fz 1; have N1l := N1.out.lt)
          try (have N2a := N2.out.c0; have N2b := N2.out.c1; have N2f := N2.out.fz 0; have N2g := N2.out.fz 1; have N2l := N2.out.lt)
          replace S1 := Lib.hid (S1.out.below hn)
          replace S2 := Lib.hid (S2.out.below hn)
          replace S3 := Lib.hid (S3.out.below hn)
          replace G := Lib.hid (G.out.below hn)
          try replace P1 := Lib.hid (P1.out.below hn)
          try replace P2 := Lib.hid (P2.out.below hn)
          try replace O := Lib.hid (O.out.below hn)
          replace HB := Lib.hid (HB.out.trans (hn.mono HB.out.size))
          have O := Lib.hid hvy
          clear hvy
          clear hbx hn)
       | (go_at_call 30; with_reducible refine (gcd_is ((P1.out.below (grow1 _ (.cells #[.bool false, .slice none 0 0] 25))).rds (Z1.out.mul Z3.out)) ((P2.out.below (grow1 _ (.cells #[.bool false, .slice none 0 0] 25))).rds (Z2.out.mul Z3.out)) (by decide) (by decide) E1.out).mono ?_; rintro e wx ⟨⟨ux, rfl, hvx⟩, hbx⟩; obtain ⟨AO, AOn, AOc, rfl, hvy⟩ := hvx.open_; obtain ⟨dO, dOh⟩ : ∃ dO, decide ((g * (c.natAbs : Int)) < 0) = dO := ⟨_, rfl⟩; rw [dOh] at hvy ⊢; clear hvx dOh
          have T0P := T0l
          have T1P := T1l
          have T2P := T2l
          have T3P := T3l
          try have N1P := N1l
          have hn := Below.trans (grow1 _ (.cells #[.bool false, .slice none 0 0] 25)) (hbx.mono (Below.size (grow1 _ (.cells #[.bool false, .slice none 0 0] 25))))
          try replace N1 := Lib.hid (N1.out.keep hn)
          try replace N2 := Lib.hid (N2.out.keep hn)
          first | (have _x := N1.out; have N2 := Lib.hid ((Two.made _ (.bool false) (.slice none 0 0)).keep hbx); clear _x) | have N1 := Lib.hid ((Two.made _ (.bool false) (.slice none 0 0)).keep hbx)
          replace T0 := Lib.hid (T0.out.keep hn)
          replace T1 := Lib.hid (T1.out.keep hn)
          replace T2 := Lib.hid (T2.out.keep hn)
          replace T3 := Lib.hid (T3.out.keep hn)
          replace T0l := T0.out.lt
          replace T1l := T1.out.lt
          replace T2l := T2.out.lt
          replace T3l := T3.out.lt
          replace T0a := T0.out.c0
          replace T0b := T0.out.c1
          replace T1a := T1.out.c0
          replace T1b := T1.out.c1
          replace T2a := T2.out.c0
          replace T2b := T2.out.c1
          try (have N1a := N1.out.c0; have N1b := N1.out.c1; have N1f := N1.out.fz 0; have N1g := N1.out.fz 1; have N1l := N1.out.lt)
          try (have N2a := N2.out.c0; have N2b := N2.out.c1; have N2f := N2.out.fz 0; have N2g := N2.out.fz 1; have N2l := N2.out.lt)
          replace S1 := Lib.hid (S1.out.below hn)
          replace S2 := Lib.hid (S2.out.below hn)
          replace S3 := Lib.hid (S3.out.below hn)
          replace G := Lib.hid (G.out.below hn)
          try replace P1 := Lib.hid (P1.out.below hn)
          try replace P2 := Lib.hid (P2.out.below hn)
          try replace O := Lib.hid (O.out.below hn)
          replace HB := Lib.hid (HB.out.trans (hn.mono HB.out.size))
          have O := Lib.hid hvy
          clear hvy
          clear hbx hn)
       | (go_at_call 30; with_reducible refine (gcd_is ((P1.out.below (grow1d wa11 (.cells #[.bool false, .slice none 0 0] 25))).rds (Z1.out.mul Z3.out)) ((P2.out.below (grow1d wa11 (.cells #[.bool false, .slice none 0 0] 25))).rds (Z2.out.mul Z3.out)) (by decide) (by decide) E1.out).mono ?_; rintro e wx ⟨⟨ux, rfl, hvx⟩, hbx⟩; obtain ⟨AO, AOn, AOc, rfl, hvy⟩ := hvx.open_; obtain ⟨dO, dOh⟩ : ∃ dO, decide ((g * (c.natAbs : Int)) < 0) = dO := ⟨_, rfl⟩; rw [dOh] at hvy ⊢; clear hvx dOh
          have T0P := T0l
          have T1P := T1l
          have T2P := T2l
          have T3P := T3l
          try have N1P := N1l
          have hn := Below.trans (grow1d wa11 (.cells #[.bool false, .slice none 0 0] 25)) (hbx.mono (Below.size (grow1d wa11 (.cells #[.bool false, .slice none 0 0] 25))))
          try replace N1 := Lib.hid (N1.out.keep hn)
          try replace N2 := Lib.hid (N2.out.keep hn)
          first | (have _x := N1.out; have N2 := Lib.hid ((Two.made _ (.bool false) (.slice none 0 0)).drew.keep hbx); clear _x) | have N1 := Lib.hid ((Two.made _ (.bool false) (.slice none 0 0)).drew.keep hbx)
          replace T0 := Lib.hid (T0.out.keep hn)
          replace T1 := Lib.hid (T1.out.keep hn)
          replace T2 := Lib.hid (T2.out.keep hn)
          replace T3 := Lib.hid (T3.out.keep hn)
          replace T0l := T0.out.lt
          replace T1l := T1.out.lt
          replace T2l := T2.out.lt
          replace T3l := T3.out.lt
          replace T0a := T0.out.c0
          replace T0b := T0.out.c1
          replace T1a := T1.out.c0
          replace T1b := T1.out.c1
          replace T2a := T2.out.c0
          replace T2b := T2.out.c1
          try (have N1a := N1.out.c0; have N1b := N1.out.c1; have N1f := N1.out.fz 0; have N1g := N1.out.fz 1; have N1l := N1.out.lt)
          try (have N2a := N2.out.c0; have N2b := N2.out.c1; have N2f := N2.out.fz 0; have N2g := N2.out.fz 1; have N2l := N2.out.lt)
          replace S1 := Lib.hid (S1.out.below hn)
          replace S2 := Lib.hid (S2.out.below hn)
          replace S3 := Lib.hid (S3.out.below hn)
          replace G := Lib.hid (G.out.below hn)
          try replace P1 := Lib.hid (P1.out.below hn)
          try replace P2 := Lib.hid (P2.out.below hn)
          try replace O := Lib.hid (O.out.below hn)
          replace HB := Lib.hid (HB.out.trans (hn.mono HB.out.size))
          have O := Lib.hid hvy
          clear hvy
          clear hbx hn))
    all_goals
      rename_i hH
      clear hH
      go_wp2_with fail
      go_meet
      refine ⟨_, dO, AO, AOn, AOc, rfl, ?_, ?_, ?_, ?_, ?_, ?_, ?_, ?_, ?_, ?_, ?_⟩ <;> (repeat (first | with_reducible exact T0.out | with_reducible exact T1.out | with_reducible exact T2.out | with_reducible exact T3.out | with_reducible exact N1.out | with_reducible exact N2.out | with_reducible exact S1.out | with_reducible exact S2.out | with_reducible exact S3.out | with_reducible exact G.out | with_reducible exact P1.out | with_reducible exact P2.out | with_reducible exact O.out | with_reducible exact HB.out | with_reducible exact Bs.of N1.out | with_reducible exact Bs.of N2.out | with_reducible exact Bs.of T0.out | with_reducible exact Bs.of T1.out | with_reducible exact Bs.of T2.out | with_reducible exact Bs.of T3.out | with_reducible refine Two.st ?_ _ _ | (with_reducible refine Two.ot ?_ ?hne _ _; case hne => omega) | (with_reducible refine Two.mk' ?_ _ _; (first | with_reducible rfl | omega | (simp; done))) | with_reducible refine Two.alloc ?_ _ | with_reducible refine Bs.same ?_ _ _ _ _ | (with_reducible refine Bs.ot ?_ ?hne _ _; case hne => omega) | (with_reducible refine Bs.mk' ?_ _ _ _ _; (first | with_reducible rfl | omega | (simp; done))) | with_reducible refine Bs.al ?_ _ | with_reducible refine In.st ?_ ?_ _ _ | with_reducible refine In.al ?_ _ | with_reducible refine Rd.st ?_ ?_ _ _ | with_reducible refine Rd.al ?_ _ | (with_reducible refine Below.st ?_ ?hne _ _; case hne => omega) | with_reducible refine Below.al ?_ _))
  case rest =>
    obtain ⟨gT4, dO, AO, AOn, AOc, rfl, T4p, Op, T0p, T1p, T2p, T3p, S1p, S2p, S3p, Gp, HBp⟩ := hcut
    replace T0 := Lib.hid T0p
    clear T0p
    replace T1 := Lib.hid T1p
    clear T1p
    replace T2 := Lib.hid T2p
    clear T2p
    replace T3 := Lib.hid T3p
    clear T3p
    replace S1 := Lib.hid S1p
    clear S1p
    replace S2 := Lib.hid S2p
    clear S2p
    replace S3 := Lib.hid S3p
    clear S3p
    replace G := Lib.hid Gp
    clear Gp
    replace HB := Lib.hid HBp
    clear HBp
    have T4 := Lib.hid T4p
    have O := Lib.hid Op
    clear T4p Op
    go_wp2_with fail
    replace T0 := Lib.hid T0.out.drew
    replace T1 := Lib.hid T1.out.drew
    replace T2 := Lib.hid T2.out.drew
    replace T3 := Lib.hid T3.out.drew
    replace T4 := Lib.hid T4.out.drew
    replace S1 := Lib.hid S1.out.drew
    replace S2 := Lib.hid S2.out.drew
    replace S3 := Lib.hid S3.out.drew
    replace G := Lib.hid G.out.drew
    replace O := Lib.hid O.out.drew
    replace HB := Lib.hid (below_drewN HB.out 1)
    have T4a := T4.out.c0
    have T4b := T4.out.c1
    have T3a := T3.out.c0
    have T3b := T3.out.c1
    have T2a := T2.out.c0
    have T2b := T2.out.c1
    have T1a := T1.out.c0
    have T1b := T1.out.c1
    have T0a := T0.out.c0
    have T0b := T0.out.c1
    go_region_held3 (fun w' => w'.cell? ⟨gT4, 0, none⟩ = some (.bool dO) ∧ w'.cell? ⟨gT4, 1, none⟩ = some (.slice AO AOn AOc) ∧ w'.cell? ⟨wc8.heap.size, 0, none⟩ = some (.bool dg) ∧ w'.cell? ⟨wc8.heap.size, 1, none⟩ = some (.slice AG AGn AGc) ∧ w'.cell? ⟨w.heap.size + 1 + 1, 0, none⟩ = some (.bool g3) ∧ w'.cell? ⟨w.heap.size + 1 + 1, 1, none⟩ = some (.slice A3 l3.length c3) ∧ w'.cell? ⟨w.heap.size + 1, 0, none⟩ = some (.bool g2) ∧ w'.cell? ⟨w.heap.size + 1, 1, none⟩ = some (.slice A2 l2.length c2) ∧ w'.cell? ⟨w.heap.size, 0, none⟩ = some (.bool g1) ∧ w'.cell? ⟨w.heap.size, 1, none⟩ = some (.slice A1 l1.length c1))
      ((first | (refine ⟨?_, ?_, ?_, ?_, ?_, ?_, ?_, ?_, ?_, ?_⟩ <;> (with_reducible assumption))))
      (first
       | (go_at_call 26; with_reducible refine (iabs_rd S3.out).mono ?_; rintro e wy14 ⟨⟨ux, rfl, hvx⟩, hbx⟩; obtain ⟨B1, B1n, B1c, rfl, hvy⟩ := hvx.open_; obtain ⟨e1, e1h⟩ : ∃ e1, decide ((c.natAbs : Int) < 0) = e1 := ⟨_, rfl⟩; rw [e1h] at hvy ⊢; clear hvx e1h
          replace T0 := Lib.hid (T0.out.keep hbx)
          replace T1 := Lib.hid (T1.out.keep hbx)
          replace T2 := Lib.hid (T2.out.keep hbx)
          replace T3 := Lib.hid (T3.out.keep hbx)
          replace T4 := Lib.hid (T4.out.keep hbx)
          replace T4a := T4.out.c0
          replace T4b := T4.out.c1
          replace T3a := T3.out.c0
          replace T3b := T3.out.c1
          replace T2a := T2.out.c0
          replace T2b := T2.out.c1
          replace T1a := T1.out.c0
          replace T1b := T1.out.c1
          replace T0a := T0.out.c0
          replace T0b := T0.out.c1
          replace S1 := Lib.hid (S1.out.below hbx)
          replace S2 := Lib.hid (S2.out.below hbx)
          replace S3 := Lib.hid (S3.out.below hbx)
          replace G := Lib.hid (G.out.below hbx)
          replace O := Lib.hid (O.out.below hbx)
          try replace AC := Lib.hid (AC.out.below hbx)
          try replace MG := Lib.hid (MG.out.below hbx)
          try replace K2 := Lib.hid (K2.out.below hbx)
          try replace KX := Lib.hid (KX.out.below hbx)
          try replace KY := Lib.hid (KY.out.below hbx)
          try replace KZ := Lib.hid (KZ.out.below hbx)
          try replace ZE := Lib.hid (ZE.out.below hbx)
          try replace KA := Lib.hid (KA.out.below hbx)
          try replace AA := Lib.hid (AA.out.below hbx)
          try replace NA := Lib.hid (NA.out.below hbx)
          try replace KN := Lib.hid (KN.out.below hbx)
          replace HB := Lib.hid (HB.out.trans (hbx.mono HB.out.size))
          have AC := Lib.hid hvy
          clear hvy
          clear hbx)
       | (go_at_call 29; with_reducible refine (imul_rd (G.out.rds ZG.out) (AC.out.rds Z3.out.abs) (by decide) (by decide) (Or.inl (by decide))).mono ?_; rintro e wy14 ⟨⟨ux, rfl, hvx⟩, hbx⟩; obtain ⟨B2, B2n, B2c, rfl, hvy⟩ := hvx.open_; obtain ⟨e2, e2h⟩ : ∃ e2, decide ((g * (c.natAbs : Int)) < 0) = e2 := ⟨_, rfl⟩; rw [e2h] at hvy ⊢; clear hvx e2h
          replace T0 := Lib.hid (T0.out.keep hbx)
          replace T1 := Lib.hid (T1.out.keep hbx)
          replace T2 := Lib.hid (T2.out.keep hbx)
          replace T3 := Lib.hid (T3.out.keep hbx)
          replace T4 := Lib.hid (T4.out.keep hbx)
          replace T4a := T4.out.c0
          replace T4b := T4.out.c1
          replace T3a := T3.out.c0
          replace T3b := T3.out.c1
          replace T2a := T2.out.c0
          replace T2b := T2.out.c1
          replace T1a := T1.out.c0
          replace T1b := T1.out.c1
          replace T0a := T0.out.c0
          replace T0b := T0.out.c1
          replace S1 := Lib.hid (S1.out.below hbx)
          replace S2 := Lib.hid (S2.out.below hbx)
          replace S3 := Lib.hid (S3.out.below hbx)
          replace G := Lib.hid (G.out.below hbx)
          replace O := Lib.hid (O.out.below hbx)
          try replace AC := Lib.hid (AC.out.below hbx)
          try replace MG := Lib.hid (MG.out.below hbx)
          try replace K2 := Lib.hid (K2.out.below hbx)
          try replace KX := Lib.hid (KX.out.below hbx)
          try replace KY := Lib.hid (KY.out.below hbx)
          try replace KZ := Lib.hid (KZ.out.below hbx)
          try replace ZE := Lib.hid (ZE.out.below hbx)
          try replace KA := Lib.hid (KA.out.below hbx)
          try replace AA := Lib.hid (AA.out.below hbx)
          try replace NA := Lib.hid (NA.out.below hbx)
          try replace KN := Lib.hid (KN.out.below hbx)
          replace HB := Lib.hid (HB.out.trans (hbx.mono HB.out.size))
          have MG := Lib.hid hvy
          clear hvy
          clear hbx)
       | (go_at_call 27; with_reducible refine (isame_eq (O.out.rds (ZG.out.mul Z3.out.abs)) (MG.out.rds (ZG.out.mul Z3.out.abs)) rfl).mono ?_; rintro e wy14 ⟨rfl, hbx⟩
          replace T0 := Lib.hid (T0.out.keep hbx)
          replace T1 := Lib.hid (T1.out.keep hbx)
          replace T2 := Lib.hid (T2.out.keep hbx)
          replace T3 := Lib.hid (T3.out.keep hbx)
          replace T4 := Lib.hid (T4.out.keep hbx)
          replace T4a := T4.out.c0
          replace T4b := T4.out.c1
          replace T3a := T3.out.c0
          replace T3b := T3.out.c1
          replace T2a := T2.out.c0
          replace T2b := T2.out.c1
          replace T1a := T1.out.c0
          replace T1b := T1.out.c1
          replace T0a := T0.out.c0
          replace T0b := T0.out.c1
          replace S1 := Lib.hid (S1.out.below hbx)
          replace S2 := Lib.hid (S2.out.below hbx)
          replace S3 := Lib.hid (S3.out.below hbx)
          replace G := Lib.hid (G.out.below hbx)
          replace O := Lib.hid (O.out.below hbx)
          try replace AC := Lib.hid (AC.out.below hbx)
          try replace MG := Lib.hid (MG.out.below hbx)
          try replace K2 := Lib.hid (K2.out.below hbx)
          try replace KX := Lib.hid (KX.out.below hbx)
          try replace KY := Lib.hid (KY.out.below hbx)
          try replace KZ := Lib.hid (KZ.out.below hbx)
          try replace ZE := Lib.hid (ZE.out.below hbx)
          try replace KA := Lib.hid (KA.out.below hbx)
          try replace AA := Lib.hid (AA.out.below hbx)
          try replace NA := Lib.hid (NA.out.below hbx)
          try replace KN := Lib.hid (KN.out.below hbx)
          replace HB := Lib.hid (HB.out.trans (hbx.mono HB.out.size))
          clear hbx)
       | (go_at_call 30; with_reducible refine (gcd_is S2.out S1.out (by decide) (by decide) E2.out).mono ?_; rintro e wy14 ⟨⟨ux, rfl, hvx⟩, hbx⟩; obtain ⟨B3, B3n, B3c, rfl, hvy⟩ := hvx.open_; obtain ⟨e3, e3h⟩ : ∃ e3, decide (g < 0) = e3 := ⟨_, rfl⟩; rw [e3h] at hvy ⊢; clear hvx e3h
          replace T0 := Lib.hid (T0.out.keep hbx)
          replace T1 := Lib.hid (T1.out.keep hbx)
          replace T2 := Lib.hid (T2.out.keep hbx)
          replace T3 := Lib.hid (T3.out.keep hbx)
          replace T4 := Lib.hid (T4.out.keep hbx)
          replace T4a := T4.out.c0
          replace T4b := T4.out.c1
          replace T3a := T3.out.c0
          replace T3b := T3.out.c1
          replace T2a := T2.out.c0
          replace T2b := T2.out.c1
          replace T1a := T1.out.c0
          replace T1b := T1.out.c1
          replace T0a := T0.out.c0
          replace T0b := T0.out.c1
          replace S1 := Lib.hid (S1.out.below hbx)
          replace S2 := Lib.hid (S2.out.below hbx)
          replace S3 := Lib.hid (S3.out.below hbx)
          replace G := Lib.hid (G.out.below hbx)
          replace O := Lib.hid (O.out.below hbx)
          try replace AC := Lib.hid (AC.out.below hbx)
          try replace MG := Lib.hid (MG.out.below hbx)
          try replace K2 := Lib.hid (K2.out.below hbx)
          try replace KX := Lib.hid (KX.out.below hbx)
          try replace KY := Lib.hid (KY.out.below hbx)
          try replace KZ := Lib.hid (KZ.out.below hbx)
          try replace ZE := Lib.hid (ZE.out.below hbx)
          try replace KA := Lib.hid (KA.out.below hbx)
          try replace AA := Lib.hid (AA.out.below hbx)
          try replace NA := Lib.hid (NA.out.below hbx)
          try replace KN := Lib.hid (KN.out.below hbx)
          replace HB := Lib.hid (HB.out.trans (hbx.mono HB.out.size))
          have K2 := Lib.hid hvy
          clear hvy
          clear hbx)
       | (go_at_call 27; with_reducible refine (isame_eq (K2.out.rds ZG.out) (G.out.rds ZG.out) rfl).mono ?_; rintro e wy14 ⟨rfl, hbx⟩
          replace T0 := Lib.hid (T0.out.keep hbx)
          replace T1 := Lib.hid (T1.out.keep hbx)
          replace T2 := Lib.hid (T2.out.keep hbx)
          replace T3 := Lib.hid (T3.out.keep hbx)
          replace T4 := Lib.hid (T4.out.keep hbx)
          replace T4a := T4.out.c0
          replace T4b := T4.out.c1
          replace T3a := T3.out.c0
          replace T3b := T3.out.c1
          replace T2a := T2.out.c0
          replace T2b := T2.out.c1
          replace T1a := T1.out.c0
          replace T1b := T1.out.c1
          replace T0a := T0.out.c0
          replace T0b := T0.out.c1
          replace S1 := Lib.hid (S1.out.below hbx)
          replace S2 := Lib.hid (S2.out.below hbx)
          replace S3 := Lib.hid (S3.out.below hbx)
          replace G := Lib.hid (G.out.below hbx)
          replace O := Lib.hid (O.out.below hbx)
          try replace AC := Lib.hid (AC.out.below hbx)
          try replace MG := Lib.hid (MG.out.below hbx)
          try replace K2 := Lib.hid (K2.out.below hbx)
          try replace KX := Lib.hid (KX.out.below hbx)
          try replace KY := Lib.hid (KY.out.below hbx)
          try replace KZ := Lib.hid (KZ.out.below hbx)
          try replace ZE := Lib.hid (ZE.out.below hbx)
          try replace KA := Lib.hid (KA.out.below hbx)
          try replace AA := Lib.hid (AA.out.below hbx)
          try replace NA := Lib.hid (NA.out.below hbx)
          try replace KN := Lib.hid (KN.out.below hbx)
          replace HB := Lib.hid (HB.out.trans (hbx.mono HB.out.size))
          clear hbx)
       | (go_at_call 30; with_reducible refine (gcd_is S2.out S3.out (by decide) (by decide) HX.out).mono ?_; rintro e wy14 ⟨⟨ux, rfl, hvx⟩, hbx⟩; obtain ⟨B4, B4n, B4c, rfl, hvy⟩ := hvx.open_; obtain ⟨e4, e4h⟩ : ∃ e4, decide (x < 0) = e4 := ⟨_, rfl⟩; rw [e4h] at hvy ⊢; clear hvx e4h
          replace T0 := Lib.hid (T0.out.keep hbx)
          replace T1 := Lib.hid (T1.out.keep hbx)
          replace T2 := Lib.hid (T2.out.keep hbx)
          replace T3 := Lib.hid (T3.out.keep hbx)
          replace T4 := Lib.hid (T4.out.keep hbx)
          replace T4a := T4.out.c0
          replace T4b := T4.out.c1
          replace T3a := T3.out.c0
          replace T3b := T3.out.c1
          replace T2a := T2.out.c0
          replace T2b := T2.out.c1
          replace T1a := T1.out.c0
          replace T1b := T1.out.c1
          replace T0a := T0.out.c0
          replace T0b := T0.out.c1
          replace S1 := Lib.hid (S1.out.below hbx)
          replace S2 := Lib.hid (S2.out.below hbx)
          replace S3 := Lib.hid (S3.out.below hbx)
          replace G := Lib.hid (G.out.below hbx)
          replace O := Lib.hid (O.out.below hbx)
          try replace AC := Lib.hid (AC.out.below hbx)
          try replace MG := Lib.hid (MG.out.below hbx)
          try replace K2 := Lib.hid (K2.out.below hbx)
          try replace KX := Lib.hid (KX.out.below hbx)
          try replace KY := Lib.hid (KY.out.below hbx)
          try replace KZ := Lib.hid (KZ.out.below hbx)
          try replace ZE := Lib.hid (ZE.out.below hbx)
          try replace KA := Lib.hid (KA.out.below hbx)
          try replace AA := Lib.hid (AA.out.below hbx)
          try replace NA := Lib.hid (NA.out.below hbx)
          try replace KN := Lib.hid (KN.out.below hbx)
          replace HB := Lib.hid (HB.out.trans (hbx.mono HB.out.size))
          have KX := Lib.hid hvy
          clear hvy
          clear hbx)
       | (go_at_call 30; with_reducible refine (gcd_is S1.out (KX.out.rds ZX.out) (by decide) (by decide) HY.out).mono ?_; rintro e wy14 ⟨⟨ux, rfl, hvx⟩, hbx⟩; obtain ⟨B5, B5n, B5c, rfl, hvy⟩ := hvx.open_; obtain ⟨e5, e5h⟩ : ∃ e5, decide (y < 0) = e5 := ⟨_, rfl⟩; rw [e5h] at hvy ⊢; clear hvx e5h
          replace T0 := Lib.hid (T0.out.keep hbx)
          replace T1 := Lib.hid (T1.out.keep hbx)
          replace T2 := Lib.hid (T2.out.keep hbx)
          replace T3 := Lib.hid (T3.out.keep hbx)
          replace T4 := Lib.hid (T4.out.keep hbx)
          replace T4a := T4.out.c0
          replace T4b := T4.out.c1
          replace T3a := T3.out.c0
          replace T3b := T3.out.c1
          replace T2a := T2.out.c0
          replace T2b := T2.out.c1
          replace T1a := T1.out.c0
          replace T1b := T1.out.c1
          replace T0a := T0.out.c0
          replace T0b := T0.out.c1
          replace S1 := Lib.hid (S1.out.below hbx)
          replace S2 := Lib.hid (S2.out.below hbx)
          replace S3 := Lib.hid (S3.out.below hbx)
          replace G := Lib.hid (G.out.below hbx)
          replace O := Lib.hid (O.out.below hbx)
          try replace AC := Lib.hid (AC.out.below hbx)
          try replace MG := Lib.hid (MG.out.below hbx)
          try replace K2 := Lib.hid (K2.out.below hbx)
          try replace KX := Lib.hid (KX.out.below hbx)
          try replace KY := Lib.hid (KY.out.below hbx)
          try replace KZ := Lib.hid (KZ.out.below hbx)
          try replace ZE := Lib.hid (ZE.out.below hbx)
          try replace KA := Lib.hid (KA.out.below hbx)
          try replace AA := Lib.hid (AA.out.below hbx)
          try replace NA := Lib.hid (NA.out.below hbx)
          try replace KN := Lib.hid (KN.out.below hbx)
          replace HB := Lib.hid (HB.out.trans (hbx.mono HB.out.size))
          have KY := Lib.hid hvy
          clear hvy
          clear hbx)
       | (go_at_call 30; with_reducible refine (gcd_is (G.out.rds ZG.out) S3.out (by decide) (by decide) E3.out).mono ?_; rintro e wy14 ⟨⟨ux, rfl, hvx⟩, hbx⟩; obtain ⟨B6, B6n, B6c, rfl, hvy⟩ := hvx.open_; obtain ⟨e6, e6h⟩ : ∃ e6, decide (y < 0) = e6 := ⟨_, rfl⟩; rw [e6h] at hvy ⊢; clear hvx e6h
          replace T0 := Lib.hid (T0.out.keep hbx)
          replace T1 := Lib.hid (T1.out.keep hbx)
          replace T2 := Lib.hid (T2.out.keep hbx)
          replace T3 := Lib.hid (T3.out.keep hbx)
          replace T4 := Lib.hid (T4.out.keep hbx)
          replace T4a := T4.out.c0
          replace T4b := T4.out.c1
          replace T3a := T3.out.c0
          replace T3b := T3.out.c1
          replace T2a := T2.out.c0
          replace T2b := T2.out.c1
          replace T1a := T1.out.c0
          replace T1b := T1.out.c1
          replace T0a := T0.out.c0
          replace T0b := T0.out.c1
          replace S1 := Lib.hid (S1.out.below hbx)
          replace S2 := Lib.hid (S2.out.below hbx)
          replace S3 := Lib.hid (S3.out.below hbx)
          replace G := Lib.hid (G.out.below hbx)
          replace O := Lib.hid (O.out.below hbx)
          try replace AC := Lib.hid (AC.out.below hbx)
          try replace MG := Lib.hid (MG.out.below hbx)
          try replace K2 := Lib.hid (K2.out.below hbx)
          try replace KX := Lib.hid (KX.out.below hbx)
          try replace KY := Lib.hid (KY.out.below hbx)
          try replace KZ := Lib.hid (KZ.out.below hbx)
          try replace ZE := Lib.hid (ZE.out.below hbx)
          try replace KA := Lib.hid (KA.out.below hbx)
          try replace AA := Lib.hid (AA.out.below hbx)
          try replace NA := Lib.hid (NA.out.below hbx)
          try replace KN := Lib.hid (KN.out.below hbx)
          replace HB := Lib.hid (HB.out.trans (hbx.mono HB.out.size))
          have KZ := Lib.hid hvy
          clear hvy
          clear hbx)
       | (go_at_call 27; with_reducible refine (isame_eq (KY.out.rds ZY.out) (KZ.out.rds ZY.out) rfl).mono ?_; rintro e wy14 ⟨rfl, hbx⟩
          replace T0 := Lib.hid (T0.out.keep hbx)
          replace T1 := Lib.hid (T1.out.keep hbx)
          replace T2 := Lib.hid (T2.out.keep hbx)
          replace T3 := Lib.hid (T3.out.keep hbx)
          replace T4 := Lib.hid (T4.out.keep hbx)
          replace T4a := T4.out.c0
          replace T4b := T4.out.c1
          replace T3a := T3.out.c0
          replace T3b := T3.out.c1
          replace T2a := T2.out.c0
          replace T2b := T2.out.c1
          replace T1a := T1.out.c0
          replace T1b := T1.out.c1
          replace T0a := T0.out.c0
          replace T0b := T0.out.c1
          replace S1 := Lib.hid (S1.out.below hbx)
          replace S2 := Lib.hid (S2.out.below hbx)
          replace S3 := Lib.hid (S3.out.below hbx)
          replace G := Lib.hid (G.out.below hbx)
          replace O := Lib.hid (O.out.below hbx)
          try replace AC := Lib.hid (AC.out.below hbx)
          try replace MG := Lib.hid (MG.out.below hbx)
          try replace K2 := Lib.hid (K2.out.below hbx)
          try replace KX := Lib.hid (KX.out.below hbx)
          try replace KY := Lib.hid (KY.out.below hbx)
          try replace KZ := Lib.hid (KZ.out.below hbx)
          try replace ZE := Lib.hid (ZE.out.below hbx)
          try replace KA := Lib.hid (KA.out.below hbx)
          try replace AA := Lib.hid (AA.out.below hbx)
          try replace NA := Lib.hid (NA.out.below hbx)
          try replace KN := Lib.hid (KN.out.below hbx)
          replace HB := Lib.hid (HB.out.trans (hbx.mono HB.out.size))
          clear hbx)
       | (go_at_call 31; with_reducible refine (iof_calls 0 (by decide) (by decide) _).mono ?_; rintro e wy14 ⟨⟨ux, rfl, hvx⟩, hbx⟩; obtain ⟨B7, B7n, B7c, rfl, hvy⟩ := hvx.open_; rw [show decide ((0 : Int) < 0) = false from by decide] at hvy ⊢; clear hvx
          replace T0 := Lib.hid (T0.out.keep hbx)
          replace T1 := Lib.hid (T1.out.keep hbx)
          replace T2 := Lib.hid (T2.out.keep hbx)
          replace T3 := Lib.hid (T3.out.keep hbx)
          replace T4 := Lib.hid (T4.out.keep hbx)
          replace T4a := T4.out.c0
          replace T4b := T4.out.c1
          replace T3a := T3.out.c0
          replace T3b := T3.out.c1
          replace T2a := T2.out.c0
          replace T2b := T2.out.c1
          replace T1a := T1.out.c0
          replace T1b := T1.out.c1
          replace T0a := T0.out.c0
          replace T0b := T0.out.c1
          replace S1 := Lib.hid (S1.out.below hbx)
          replace S2 := Lib.hid (S2.out.below hbx)
          replace S3 := Lib.hid (S3.out.below hbx)
          replace G := Lib.hid (G.out.below hbx)
          replace O := Lib.hid (O.out.below hbx)
          try replace AC := Lib.hid (AC.out.below hbx)
          try replace MG := Lib.hid (MG.out.below hbx)
          try replace K2 := Lib.hid (K2.out.below hbx)
          try replace KX := Lib.hid (KX.out.below hbx)
          try replace KY := Lib.hid (KY.out.below hbx)
          try replace KZ := Lib.hid (KZ.out.below hbx)
          try replace ZE := Lib.hid (ZE.out.below hbx)
          try replace KA := Lib.hid (KA.out.below hbx)
          try replace AA := Lib.hid (AA.out.below hbx)
          try replace NA := Lib.hid (NA.out.below hbx)
          try replace KN := Lib.hid (KN.out.below hbx)
          replace HB := Lib.hid (HB.out.trans (hbx.mono HB.out.size))
          have ZE := Lib.hid hvy
          clear hvy
          clear hbx)
       | (go_at_call 30; with_reducible refine (gcd_is S1.out (ZE.out.rds (k := 1) (Sz.small (by decide))) (by decide) (by decide) E4.out).mono ?_; rintro e wy14 ⟨⟨ux, rfl, hvx⟩, hbx⟩; obtain ⟨B8, B8n, B8c, rfl, hvy⟩ := hvx.open_; obtain ⟨e8, e8h⟩ : ∃ e8, decide ((a.natAbs : Int) < 0) = e8 := ⟨_, rfl⟩; rw [e8h] at hvy ⊢; clear hvx e8h
          replace T0 := Lib.hid (T0.out.keep hbx)
          replace T1 := Lib.hid (T1.out.keep hbx)
          replace T2 := Lib.hid (T2.out.keep hbx)
          replace T3 := Lib.hid (T3.out.keep hbx)
          replace T4 := Lib.hid (T4.out.keep hbx)
          replace T4a := T4.out.c0
          replace T4b := T4.out.c1
          replace T3a := T3.out.c0
          replace T3b := T3.out.c1
          replace T2a := T2.out.c0
          replace T2b := T2.out.c1
          replace T1a := T1.out.c0
          replace T1b := T1.out.c1
          replace T0a := T0.out.c0
          replace T0b := T0.out.c1
          replace S1 := Lib.hid (S1.out.below hbx)
          replace S2 := Lib.hid (S2.out.below hbx)
          replace S3 := Lib.hid (S3.out.below hbx)
          replace G := Lib.hid (G.out.below hbx)
          replace O := Lib.hid (O.out.below hbx)
          try replace AC := Lib.hid (AC.out.below hbx)
          try replace MG := Lib.hid (MG.out.below hbx)
          try replace K2 := Lib.hid (K2.out.below hbx)
          try replace KX := Lib.hid (KX.out.below hbx)
          try replace KY := Lib.hid (KY.out.below hbx)
          try replace KZ := Lib.hid (KZ.out.below hbx)
          try replace ZE := Lib.hid (ZE.out.below hbx)
          try replace KA := Lib.hid (KA.out.below hbx)
          try replace AA := Lib.hid (AA.out.below hbx)
          try replace NA := Lib.hid (NA.out.below hbx)
          try replace KN := Lib.hid (KN.out.below hbx)
          replace HB := Lib.hid (HB.out.trans (hbx.mono HB.out.size))
          have KA := Lib.hid hvy
          clear hvy
          clear hbx)
       | (go_at_call 26; with_reducible refine (iabs_rd S1.out).mono ?_; rintro e wy14 ⟨⟨ux, rfl, hvx⟩, hbx⟩; obtain ⟨B9, B9n, B9c, rfl, hvy⟩ := hvx.open_; obtain ⟨e9, e9h⟩ : ∃ e9, decide ((a.natAbs : Int) < 0) = e9 := ⟨_, rfl⟩; rw [e9h] at hvy ⊢; clear hvx e9h
          replace T0 := Lib.hid (T0.out.keep hbx)
          replace T1 := Lib.hid (T1.out.keep hbx)
          replace T2 := Lib.hid (T2.out.keep hbx)
          replace T3 := Lib.hid (T3.out.keep hbx)
          replace T4 := Lib.hid (T4.out.keep hbx)
          replace T4a := T4.out.c0
          replace T4b := T4.out.c1
          replace T3a := T3.out.c0
          replace T3b := T3.out.c1
          replace T2a := T2.out.c0
          replace T2b := T2.out.c1
          replace T1a := T1.out.c0
          replace T1b := T1.out.c1
          replace T0a := T0.out.c0
          replace T0b := T0.out.c1
          replace S1 := Lib.hid (S1.out.below hbx)
          replace S2 := Lib.hid (S2.out.below hbx)
          replace S3 := Lib.hid (S3.out.below hbx)
          replace G := Lib.hid (G.out.below hbx)
          replace O := Lib.hid (O.out.below hbx)
          try replace AC := Lib.hid (AC.out.below hbx)
          try replace MG := Lib.hid (MG.out.below hbx)
          try replace K2 := Lib.hid (K2.out.below hbx)
          try replace KX := Lib.hid (KX.out.below hbx)
          try replace KY := Lib.hid (KY.out.below hbx)
          try replace KZ := Lib.hid (KZ.out.below hbx)
          try replace ZE := Lib.hid (ZE.out.below hbx)
          try replace KA := Lib.hid (KA.out.below hbx)
          try replace AA := Lib.hid (AA.out.below hbx)
          try replace NA := Lib.hid (NA.out.below hbx)
          try replace KN := Lib.hid (KN.out.below hbx)
          replace HB := Lib.hid (HB.out.trans (hbx.mono HB.out.size))
          have AA := Lib.hid hvy
          clear hvy
          clear hbx)
       | (go_at_call 27; with_reducible refine (isame_eq (KA.out.rds Z1.out.abs) (AA.out.rds Z1.out.abs) rfl).mono ?_; rintro e wy14 ⟨rfl, hbx⟩
          replace T0 := Lib.hid (T0.out.keep hbx)
          replace T1 := Lib.hid (T1.out.keep hbx)
          replace T2 := Lib.hid (T2.out.keep hbx)
          replace T3 := Lib.hid (T3.out.keep hbx)
          replace T4 := Lib.hid (T4.out.keep hbx)
          replace T4a := T4.out.c0
          replace T4b := T4.out.c1
          replace T3a := T3.out.c0
          replace T3b := T3.out.c1
          replace T2a := T2.out.c0
          replace T2b := T2.out.c1
          replace T1a := T1.out.c0
          replace T1b := T1.out.c1
          replace T0a := T0.out.c0
          replace T0b := T0.out.c1
          replace S1 := Lib.hid (S1.out.below hbx)
          replace S2 := Lib.hid (S2.out.below hbx)
          replace S3 := Lib.hid (S3.out.below hbx)
          replace G := Lib.hid (G.out.below hbx)
          replace O := Lib.hid (O.out.below hbx)
          try replace AC := Lib.hid (AC.out.below hbx)
          try replace MG := Lib.hid (MG.out.below hbx)
          try replace K2 := Lib.hid (K2.out.below hbx)
          try replace KX := Lib.hid (KX.out.below hbx)
          try replace KY := Lib.hid (KY.out.below hbx)
          try replace KZ := Lib.hid (KZ.out.below hbx)
          try replace ZE := Lib.hid (ZE.out.below hbx)
          try replace KA := Lib.hid (KA.out.below hbx)
          try replace AA := Lib.hid (AA.out.below hbx)
          try replace NA := Lib.hid (NA.out.below hbx)
          try replace KN := Lib.hid (KN.out.below hbx)
          replace HB := Lib.hid (HB.out.trans (hbx.mono HB.out.size))
          clear hbx)
       | (go_at_call 32; with_reducible refine (ineg_rd S1.out).mono ?_; rintro e wy14 ⟨⟨ux, rfl, hvx⟩, hbx⟩; obtain ⟨B10, B10n, B10c, rfl, hvy⟩ := hvx.open_; obtain ⟨e10, e10h⟩ : ∃ e10, decide ((-a) < 0) = e10 := ⟨_, rfl⟩; rw [e10h] at hvy ⊢; clear hvx e10h
          replace T0 := Lib.hid (T0.out.keep hbx)
          replace T1 := Lib.hid (T1.out.keep hbx)
          replace T2 := Lib.hid (T2.out.keep hbx)
          replace T3 := Lib.hid (T3.out.keep hbx)
          replace T4 := Lib.hid (T4.out.keep hbx)
          replace T4a := T4.out.c0
          replace T4b := T4.out.c1
          replace T3a := T3.out.c0
          replace T3b := T3.out.c1
          replace T2a := T2.out.c0
          replace T2b := T2.out.c1
          replace T1a := T1.out.c0
          replace T1b := T1.out.c1
          replace T0a := T0.out.c0
          replace T0b := T0.out.c1
          replace S1 := Lib.hid (S1.out.below hbx)
          replace S2 := Lib.hid (S2.out.below hbx)
          replace S3 := Lib.hid (S3.out.below hbx)
          replace G := Lib.hid (G.out.below hbx)
          replace O := Lib.hid (O.out.below hbx)
          try replace AC := Lib.hid (AC.out.below hbx)
          try replace MG := Lib.hid (MG.out.below hbx)
          try replace K2 := Lib.hid (K2.out.below hbx)
          try replace KX := Lib.hid (KX.out.below hbx)
          try replace KY := Lib.hid (KY.out.below hbx)
          try replace KZ := Lib.hid (KZ.out.below hbx)
          try replace ZE := Lib.hid (ZE.out.below hbx)
          try replace KA := Lib.hid (KA.out.below hbx)
          try replace AA := Lib.hid (AA.out.below hbx)
          try replace NA := Lib.hid (NA.out.below hbx)
          try replace KN := Lib.hid (KN.out.below hbx)
          replace HB := Lib.hid (HB.out.trans (hbx.mono HB.out.size))
          have NA := Lib.hid hvy
          clear hvy
          clear hbx)
       | (go_at_call 30; with_reducible refine (gcd_is (NA.out.rds Z1.out.neg) S2.out (by decide) (by decide) E5.out).mono ?_; rintro e wy14 ⟨⟨ux, rfl, hvx⟩, hbx⟩; obtain ⟨B11, B11n, B11c, rfl, hvy⟩ := hvx.open_; obtain ⟨e11, e11h⟩ : ∃ e11, decide (g < 0) = e11 := ⟨_, rfl⟩; rw [e11h] at hvy ⊢; clear hvx e11h
          replace T0 := Lib.hid (T0.out.keep hbx)
          replace T1 := Lib.hid (T1.out.keep hbx)
          replace T2 := Lib.hid (T2.out.keep hbx)
          replace T3 := Lib.hid (T3.out.keep hbx)
          replace T4 := Lib.hid (T4.out.keep hbx)
          replace T4a := T4.out.c0
          replace T4b := T4.out.c1
          replace T3a := T3.out.c0
          replace T3b := T3.out.c1
          replace T2a := T2.out.c0
          replace T2b := T2.out.c1
          replace T1a := T1.out.c0
          replace T1b := T1.out.c1
          replace T0a := T0.out.c0
          replace T0b := T0.out.c1
          replace S1 := Lib.hid (S1.out.below hbx)
          replace S2 := Lib.hid (S2.out.below hbx)
          replace S3 := Lib.hid (S3.out.below hbx)
          replace G := Lib.hid (G.out.below hbx)
          replace O := Lib.hid (O.out.below hbx)
          try replace AC := Lib.hid (AC.out.below hbx)
          try replace MG := Lib.hid (MG.out.below hbx)
          try replace K2 := Lib.hid (K2.out.below hbx)
          try replace KX := Lib.hid (KX.out.below hbx)
          try replace KY := Lib.hid (KY.out.below hbx)
          try replace KZ := Lib.hid (KZ.out.below hbx)
          try replace ZE := Lib.hid (ZE.out.below hbx)
          try replace KA := Lib.hid (KA.out.below hbx)
          try replace AA := Lib.hid (AA.out.below hbx)
          try replace NA := Lib.hid (NA.out.below hbx)
          try replace KN := Lib.hid (KN.out.below hbx)
          replace HB := Lib.hid (HB.out.trans (hbx.mono HB.out.size))
          have KN := Lib.hid hvy
          clear hvy
          clear hbx)
       | (go_at_call 27; with_reducible refine (isame_eq (KN.out.rds ZG.out) (G.out.rds ZG.out) rfl).mono ?_; rintro e wy14 ⟨rfl, hbx⟩
          replace T0 := Lib.hid (T0.out.keep hbx)
          replace T1 := Lib.hid (T1.out.keep hbx)
          replace T2 := Lib.hid (T2.out.keep hbx)
          replace T3 := Lib.hid (T3.out.keep hbx)
          replace T4 := Lib.hid (T4.out.keep hbx)
          replace T4a := T4.out.c0
          replace T4b := T4.out.c1
          replace T3a := T3.out.c0
          replace T3b := T3.out.c1
          replace T2a := T2.out.c0
          replace T2b := T2.out.c1
          replace T1a := T1.out.c0
          replace T1b := T1.out.c1
          replace T0a := T0.out.c0
          replace T0b := T0.out.c1
          replace S1 := Lib.hid (S1.out.below hbx)
          replace S2 := Lib.hid (S2.out.below hbx)
          replace S3 := Lib.hid (S3.out.below hbx)
          replace G := Lib.hid (G.out.below hbx)
          replace O := Lib.hid (O.out.below hbx)
          try replace AC := Lib.hid (AC.out.below hbx)
          try replace MG := Lib.hid (MG.out.below hbx)
          try replace K2 := Lib.hid (K2.out.below hbx)
          try replace KX := Lib.hid (KX.out.below hbx)
          try replace KY := Lib.hid (KY.out.below hbx)
          try replace KZ := Lib.hid (KZ.out.below hbx)
          try replace ZE := Lib.hid (ZE.out.below hbx)
          try replace KA := Lib.hid (KA.out.below hbx)
          try replace AA := Lib.hid (AA.out.below hbx)
          try replace NA := Lib.hid (NA.out.below hbx)
          try replace KN := Lib.hid (KN.out.below hbx)
          replace HB := Lib.hid (HB.out.trans (hbx.mono HB.out.size))
          clear hbx))
    all_goals
      rename_i hH
      clear hH
      go_wp2_with fail
      go_ret
      exact ⟨rfl, HB.out⟩

theorem walk (v1 : Value) (g1 : Bool) (l1 : List Nat) (v2 : Value) (g2 : Bool) (l2 : List Nat) (v3 : Value) (g3 : Bool) (l3 : List Nat) (w : World) (h1 : Iv w v1 g1 l1) (h2 : Iv w v2 g2 l2) (h3 : Iv w v3 g3 l3) :
    Calls Try.prog 5 #[v1, v2, v3] w fun e w' => e = .returned (.bool true) ∧ Below w.heap.size w w' := by
  cases hf : few3 5 l1.length l2.length l3.length
  · exact few_no v1 v2 v3 g1 g2 g3 l1 l2 l3 w h1 h2 h3 hf
  · exact main v1 v2 v3 g1 g2 g3 l1 l2 l3 w h1 h2 h3 hf

end Go.Proofs.Ytgmooidagkbheaa.common
