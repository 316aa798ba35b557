/-
  division.Floor.
-/
import Derived.Test.YtgmooidagkbheaaIw
import Derived.Deep.RegionWith
namespace Go.Proofs.Ytgmooidagkbheaa
open Go.RowKit Go.Proofs.YtgmooidagkbheaaW.PrintWords
set_option linter.unusedVariables false

theorem sg_neg {r b : Int} (hb : b ≠ 0) : Int.sign r * Int.sign b < 0 ↔ (r < 0 ∧ 0 < b) ∨ (0 < r ∧ b < 0) := by
  rcases Int.lt_trichotomy b 0 with h2 | h2 | h2
  · rw [Int.sign_eq_neg_one_of_neg h2]
    rcases Int.lt_trichotomy r 0 with h1 | h1 | h1
    · rw [Int.sign_eq_neg_one_of_neg h1]; omega
    · rw [h1]; simp
    · rw [Int.sign_eq_one_of_pos h1]; omega
  · exact absurd h2 hb
  · rw [Int.sign_eq_one_of_pos h2]
    rcases Int.lt_trichotomy r 0 with h1 | h1 | h1
    · rw [Int.sign_eq_neg_one_of_neg h1]; omega
    · rw [h1]; simp
    · rw [Int.sign_eq_one_of_pos h1]; omega
theorem tmod_lt_abs (a : Int) {b : Int} (hb : b ≠ 0) : (Int.tmod a b).natAbs < b.natAbs := by
  rw [Int.natAbs_tmod]
  exact Nat.mod_lt _ (by omega)
/-- Where the truncated quotient is the floor. -/
theorem fl_same {a b : Int} (hb : b ≠ 0) (h : ¬ Int.sign (Int.tmod a b) * Int.sign b < 0) : Int.fdiv a b = Int.tdiv a b ∧ Int.fmod a b = Int.tmod a b := by
  rw [sg_neg hb] at h
  have e1 := Int.tmod_add_mul_tdiv a b
  have e2 := tmod_lt_abs a hb
  generalize Int.tmod a b = r at *
  generalize Int.tdiv a b = q at *
  rcases Int.lt_or_lt_of_ne hb with h2 | h2
  · exact (Int.fdiv_fmod_unique' h2).2 ⟨e1, by omega, by omega⟩
  · exact (Int.fdiv_fmod_unique h2).2 ⟨e1, by omega, by omega⟩
theorem fl_other {a b : Int} (hb : b ≠ 0) (h : Int.sign (Int.tmod a b) * Int.sign b < 0) : Int.fdiv a b = Int.tdiv a b - 1 ∧ Int.fmod a b = Int.tmod a b + b := by
  rw [sg_neg hb] at h
  have e1 := Int.tmod_add_mul_tdiv a b
  have e2 := tmod_lt_abs a hb
  generalize Int.tmod a b = r at *
  generalize Int.tdiv a b = q at *
  rcases Int.lt_or_lt_of_ne hb with h2 | h2
  · exact (Int.fdiv_fmod_unique' h2).2 ⟨by rw [Int.mul_sub, Int.mul_one]; omega, by omega, by omega⟩
  · exact (Int.fdiv_fmod_unique h2).2 ⟨by rw [Int.mul_sub, Int.mul_one]; omega, by omega, by omega⟩

set_option maxHeartbeats 2000000 in
set_option maxRecDepth 100000 in
theorem floor0_rd (v1 v2 : Value) (z1 : Int) (k1 k2 : Nat) (w : World) (h1 : Rd w v1 z1 k1) (h2 : Rd w v2 0 k2) :
    Calls Try.prog 14 #[v1, v2] w fun e w' => e = .returned (.tuple #[.agg #[.bool false, .slice none 0 0], .agg #[.bool false, .slice none 0 0], .int .i64 2]) ∧ Below w.heap.size w w' := by
  obtain ⟨g1, A1, n1, c1, rfl, hs1⟩ := h1.open_
  obtain ⟨g2, A2, n2, c2, rfl, hs2⟩ := h2.open_
  have hbx := boxes4 w (.bool g1) (.slice A1 n1 c1) (.bool g2) (.slice A2 n2 c2)
  generalize hW : ((((w.alloc (.cells #[.bool g1, .slice A1 n1 c1] 25)).alloc (.cells #[.bool g2, .slice A2 n2 c2] 25)).alloc (.cells #[.bool false, .slice none 0 0] 25)).alloc (.cells #[.bool false, .slice none 0 0] 25))  = W at hbx
  obtain ⟨hbw, ht0, ht1, ht2, ht3⟩ := hbx
  have T0 := Lib.hid ht0
  have T1 := Lib.hid ht1
  have T2 := Lib.hid ht2
  have T3 := Lib.hid ht3
  have S1 := Lib.hid (hs1.below hbw)
  have S2 := Lib.hid (hs2.below hbw)
  have HB := Lib.hid hbw
  have HW := Lib.hid hW
  clear h1 h2 hs1 hs2 hbw ht0 ht1 ht2 ht3 hW
  have HQ := Lib.hid (quo0_rd S1.out S2.out)
  have T0a := T0.out.c0
  have T0b := T0.out.c1
  have T0f := T0.out.fz 0
  have T0g := T0.out.fz 1
  have T1a := T1.out.c0
  have T1b := T1.out.c1
  have T1f := T1.out.fz 0
  have T1g := T1.out.fz 1
  have T2a := T2.out.c0
  have T2b := T2.out.c1
  have T2f := T2.out.fz 0
  have T2g := T2.out.fz 1
  have T3a := T3.out.c0
  have T3b := T3.out.c1
  have T3f := T3.out.fz 0
  have T3g := T3.out.fz 1
  go_enter Try.func14, Try.ntmps14
  go_wp2_with fail
  rw [HW.out]
  have HC1 := HQ.out
  refine (HC1).mono ?_
  rintro e wc2 ⟨rfl, hb3⟩
  clear HC1
  clear T0a T0b T0f T0g T1a T1b T1f T1g T2a T2b T2f T2g T3a T3b T3f T3g
  replace T0 := Lib.hid (T0.out.keep hb3)
  replace T1 := Lib.hid (T1.out.keep hb3)
  replace T2 := Lib.hid (T2.out.keep hb3)
  replace T3 := Lib.hid (T3.out.keep hb3)
  replace S1 := Lib.hid (S1.out.below hb3)
  replace S2 := Lib.hid (S2.out.below hb3)
  replace HB := Lib.hid (HB.out.trans (hb3.mono HB.out.size))
  clear hb3
  have T2a := T2.out.c0
  have T2b := T2.out.c1
  have T2f := T2.out.fz 0
  have T2g := T2.out.fz 1
  have T3a := T3.out.c0
  have T3b := T3.out.c1
  have T3f := T3.out.fz 0
  have T3g := T3.out.fz 1
  go_wp2_with fail
  clear T2a T2b T2f T2g T3a T3b T3f T3g
  generalize hs5 : World.setCell (World.setCell wc2 _ _) _ _ = ws4
  replace S1 := Lib.hid (S1.out.stored T2.out (.bool false) (.slice none 0 0))
  rw [hs5] at S1
  replace S2 := Lib.hid (S2.out.stored T2.out (.bool false) (.slice none 0 0))
  rw [hs5] at S2
  replace T0 := Lib.hid (T0.out.other2 T2.out (.bool false) (.slice none 0 0) (by omega))
  rw [hs5] at T0
  replace T1 := Lib.hid (T1.out.other2 T2.out (.bool false) (.slice none 0 0) (by omega))
  rw [hs5] at T1
  replace T3 := Lib.hid (T3.out.other2 T2.out (.bool false) (.slice none 0 0) (by omega))
  rw [hs5] at T3
  replace HB := Lib.hid (T2.out.grow HB.out (by omega) (.bool false) (.slice none 0 0))
  rw [hs5] at HB
  replace T2 := Lib.hid (T2.out.store (.bool false) (.slice none 0 0))
  rw [hs5] at T2
  clear hs5
  generalize hs7 : World.setCell (World.setCell ws4 _ _) _ _ = ws6
  replace S1 := Lib.hid (S1.out.stored T3.out (.bool false) (.slice none 0 0))
  rw [hs7] at S1
  replace S2 := Lib.hid (S2.out.stored T3.out (.bool false) (.slice none 0 0))
  rw [hs7] at S2
  replace T0 := Lib.hid (T0.out.other2 T3.out (.bool false) (.slice none 0 0) (by omega))
  rw [hs7] at T0
  replace T1 := Lib.hid (T1.out.other2 T3.out (.bool false) (.slice none 0 0) (by omega))
  rw [hs7] at T1
  replace T2 := Lib.hid (T2.out.other2 T3.out (.bool false) (.slice none 0 0) (by omega))
  rw [hs7] at T2
  replace HB := Lib.hid (T3.out.grow HB.out (by omega) (.bool false) (.slice none 0 0))
  rw [hs7] at HB
  replace T3 := Lib.hid (T3.out.store (.bool false) (.slice none 0 0))
  rw [hs7] at T3
  clear hs7
  have T2a := T2.out.c0
  have T2b := T2.out.c1
  have T2f := T2.out.fz 0
  have T2g := T2.out.fz 1
  have T3a := T3.out.c0
  have T3b := T3.out.c1
  have T3f := T3.out.fz 0
  have T3g := T3.out.fz 1
  go_region
  all_goals
    clear T2a T2b T2f T2g T3a T3b T3f T3g
    generalize hs9 : World.setCell (World.setCell ws6 _ _) _ _ = ws8
    replace S1 := Lib.hid (S1.out.stored T2.out (.bool false) (.slice none 0 0))
    rw [hs9] at S1
    replace S2 := Lib.hid (S2.out.stored T2.out (.bool false) (.slice none 0 0))
    rw [hs9] at S2
    replace T0 := Lib.hid (T0.out.other2 T2.out (.bool false) (.slice none 0 0) (by omega))
    rw [hs9] at T0
    replace T1 := Lib.hid (T1.out.other2 T2.out (.bool false) (.slice none 0 0) (by omega))
    rw [hs9] at T1
    replace T3 := Lib.hid (T3.out.other2 T2.out (.bool false) (.slice none 0 0) (by omega))
    rw [hs9] at T3
    replace HB := Lib.hid (T2.out.grow HB.out (by omega) (.bool false) (.slice none 0 0))
    rw [hs9] at HB
    replace T2 := Lib.hid (T2.out.store (.bool false) (.slice none 0 0))
    rw [hs9] at T2
    clear hs9
    generalize hs11 : World.setCell (World.setCell ws8 _ _) _ _ = ws10
    replace S1 := Lib.hid (S1.out.stored T3.out (.bool false) (.slice none 0 0))
    rw [hs11] at S1
    replace S2 := Lib.hid (S2.out.stored T3.out (.bool false) (.slice none 0 0))
    rw [hs11] at S2
    replace T0 := Lib.hid (T0.out.other2 T3.out (.bool false) (.slice none 0 0) (by omega))
    rw [hs11] at T0
    replace T1 := Lib.hid (T1.out.other2 T3.out (.bool false) (.slice none 0 0) (by omega))
    rw [hs11] at T1
    replace T2 := Lib.hid (T2.out.other2 T3.out (.bool false) (.slice none 0 0) (by omega))
    rw [hs11] at T2
    replace HB := Lib.hid (T3.out.grow HB.out (by omega) (.bool false) (.slice none 0 0))
    rw [hs11] at HB
    replace T3 := Lib.hid (T3.out.store (.bool false) (.slice none 0 0))
    rw [hs11] at T3
    clear hs11
    have T2a := T2.out.c0
    have T2b := T2.out.c1
    have T2f := T2.out.fz 0
    have T2g := T2.out.fz 1
    have T3a := T3.out.c0
    have T3b := T3.out.c1
    have T3f := T3.out.fz 0
    have T3g := T3.out.fz 1
    go_wp2_with fail
    exact bodyPost_ret (v := .tuple #[.agg #[.bool false, .slice none 0 0], .agg #[.bool false, .slice none 0 0], .int .i64 2]) (by simp [results, Try.results14, go_sem, T2a, T2b, T3a, T3b]) rfl ⟨rfl, HB.out.drew⟩

theorem sign_prod (a b : Int) : -1 ≤ Int.sign a * Int.sign b ∧ Int.sign a * Int.sign b ≤ 1 := by
  rcases Int.lt_trichotomy a 0 with h1 | h1 | h1 <;> rcases Int.lt_trichotomy b 0 with h2 | h2 | h2 <;> (try rw [Int.sign_eq_neg_one_of_neg h1]) <;> (try rw [Int.sign_eq_neg_one_of_neg h2]) <;> (try rw [Int.sign_eq_one_of_pos h1]) <;> (try rw [Int.sign_eq_one_of_pos h2]) <;> (try rw [h1]) <;> (try rw [h2]) <;> decide
theorem wrap_sign (a b : Int) : wrap64 (Int.sign a * Int.sign b) = Int.sign a * Int.sign b := by
  have := sign_prod a b
  unfold wrap64
  omega
theorem wrap_sign' (a b : Int) : IntKind.i64.wrap (Int.sign a * Int.sign b) = Int.sign a * Int.sign b := by
  have := sign_prod a b
  exact IntWalk.i64_in _ (by omega)

set_option maxHeartbeats 4000000 in
set_option maxRecDepth 100000 in
theorem floor_neg (v1 v2 : Value) (z1 z2 : Int) (k1 k2 : Nat) (w : World) (h1 : Rd w v1 z1 k1) (h2 : Rd w v2 z2 k2) (q1 : k1 ≤ 100000) (q2 : k2 ≤ 100000) (hz : z2 ≠ 0) (hs : Int.sign (Int.tmod z1 z2) * Int.sign z2 < 0) :
    Calls Try.prog 14 #[v1, v2] w fun e w' => (∃ q r, e = .returned (.tuple #[q, r, .int .i64 0]) ∧ In w' q (Int.fdiv z1 z2) ∧ In w' r (Int.fmod z1 z2)) ∧ Below w.heap.size w w' := by
  obtain ⟨g1, A1, n1, c1, rfl, hs1⟩ := h1.open_
  obtain ⟨g2, A2, n2, c2, rfl, hs2⟩ := h2.open_
  have hbx := boxes4 w (.bool g1) (.slice A1 n1 c1) (.bool g2) (.slice A2 n2 c2)
  generalize hW : ((((w.alloc (.cells #[.bool g1, .slice A1 n1 c1] 25)).alloc (.cells #[.bool g2, .slice A2 n2 c2] 25)).alloc (.cells #[.bool false, .slice none 0 0] 25)).alloc (.cells #[.bool false, .slice none 0 0] 25))  = W at hbx
  obtain ⟨hbw, ht0, ht1, ht2, ht3⟩ := hbx
  have T0 := Lib.hid ht0
  have T1 := Lib.hid ht1
  have T2 := Lib.hid ht2
  have T3 := Lib.hid ht3
  have S1 := Lib.hid (hs1.below hbw)
  have S2 := Lib.hid (hs2.below hbw)
  have HB := Lib.hid hbw
  have HW := Lib.hid hW
  clear h1 h2 hs1 hs2 hbw ht0 ht1 ht2 ht3 hW
  have HQ := Lib.hid (quo_rd S1.out S2.out q1 q2 hz)
  have HZ := Lib.hid hz
  have HK := Lib.hid (And.intro q1 q2)
  have ZQ := Lib.hid (Sz.tdiv (y := z2) S1.out.sz)
  have ZR := Lib.hid (Sz.tmod (y := z2) S1.out.sz)
  obtain ⟨e1, e2⟩ := fl_other hz hs
  have E1 := Lib.hid e1
  have E2 := Lib.hid e2
  clear e1 e2 q1 q2 hz
  generalize Int.fdiv z1 z2 = fq at *
  generalize Int.fmod z1 z2 = fr at *
  generalize Int.tdiv z1 z2 = zq at *
  generalize Int.tmod z1 z2 = zr at *
  obtain ⟨sr, hsr⟩ : ∃ s, Int.sign zr = s := ⟨_, rfl⟩
  obtain ⟨sb, hsb⟩ : ∃ s, Int.sign z2 = s := ⟨_, rfl⟩
  rw [hsr, hsb] at hs
  have hw : wrap64 (sr * sb) = sr * sb := by
    rw [← hsr, ← hsb]
    exact wrap_sign _ _
  have hw' : IntKind.i64.wrap (sr * sb) = sr * sb := by
    rw [← hsr, ← hsb]
    exact wrap_sign' _ _
  have HR := Lib.hid hsr
  have HSB := Lib.hid hsb
  clear hsr hsb
  obtain ⟨sp, hsp⟩ : ∃ s, sr * sb = s := ⟨_, rfl⟩
  rw [hsp] at hs hw hw'
  have T0a := T0.out.c0
  have T0b := T0.out.c1
  have T0f := T0.out.fz 0
  have T0g := T0.out.fz 1
  have T1a := T1.out.c0
  have T1b := T1.out.c1
  have T1f := T1.out.fz 0
  have T1g := T1.out.fz 1
  have T2a := T2.out.c0
  have T2b := T2.out.c1
  have T2f := T2.out.fz 0
  have T2g := T2.out.fz 1
  have T3a := T3.out.c0
  have T3b := T3.out.c1
  have T3f := T3.out.fz 0
  have T3g := T3.out.fz 1
  go_enter Try.func14, Try.ntmps14
  go_wp2_with fail
  rw [HW.out]
  have HC1 := HQ.out
  refine (HC1).mono ?_
  rintro e wc2 ⟨⟨u, u', rfl, hv4, hu5⟩, hb3⟩
  clear HC1
  obtain ⟨AQ, AQn, AQc, rfl, hv4o⟩ := hv4.open_
  obtain ⟨dq, dqh⟩ : ∃ dq, decide (zq < 0) = dq := ⟨_, rfl⟩
  rw [dqh] at hv4o ⊢
  clear hv4 dqh
  obtain ⟨AR, ARn, ARc, rfl, hu5o⟩ := hu5.open_
  obtain ⟨dr, drh⟩ : ∃ dr, decide (zr < 0) = dr := ⟨_, rfl⟩
  rw [drh] at hu5o ⊢
  clear hu5 drh
  clear T0a T0b T0f T0g T1a T1b T1f T1g T2a T2b T2f T2g T3a T3b T3f T3g
  replace T0 := Lib.hid (T0.out.keep hb3)
  replace T1 := Lib.hid (T1.out.keep hb3)
  replace T2 := Lib.hid (T2.out.keep hb3)
  replace T3 := Lib.hid (T3.out.keep hb3)
  replace S1 := Lib.hid (S1.out.below hb3)
  replace S2 := Lib.hid (S2.out.below hb3)
  replace HB := Lib.hid (HB.out.trans (hb3.mono HB.out.size))
  clear hb3
  have Q := Lib.hid (hv4o)
  clear hv4o
  have R := Lib.hid (hu5o)
  clear hu5o
  clear HQ
  have T0a := T0.out.c0
  have T0b := T0.out.c1
  have T0f := T0.out.fz 0
  have T0g := T0.out.fz 1
  have T1a := T1.out.c0
  have T1b := T1.out.c1
  have T1f := T1.out.fz 0
  have T1g := T1.out.fz 1
  have T2a := T2.out.c0
  have T2b := T2.out.c1
  have T2f := T2.out.fz 0
  have T2g := T2.out.fz 1
  have T3a := T3.out.c0
  have T3b := T3.out.c1
  have T3f := T3.out.fz 0
  have T3g := T3.out.fz 1
  go_wp2_with fail
  clear T0a T0b T0f T0g T1a T1b T1f T1g T2a T2b T2f T2g T3a T3b T3f T3g
  generalize hs7 : World.setCell (World.setCell wc2 _ _) _ _ = ws6
  replace S1 := Lib.hid (S1.out.stored T2.out (.bool dq) (.slice AQ AQn AQc))
  rw [hs7] at S1
  replace S2 := Lib.hid (S2.out.stored T2.out (.bool dq) (.slice AQ AQn AQc))
  rw [hs7] at S2
  replace Q := Lib.hid (Q.out.stored T2.out (.bool dq) (.slice AQ AQn AQc))
  rw [hs7] at Q
  replace R := Lib.hid (R.out.stored T2.out (.bool dq) (.slice AQ AQn AQc))
  rw [hs7] at R
  replace T0 := Lib.hid (T0.out.other2 T2.out (.bool dq) (.slice AQ AQn AQc) (by omega))
  rw [hs7] at T0
  replace T1 := Lib.hid (T1.out.other2 T2.out (.bool dq) (.slice AQ AQn AQc) (by omega))
  rw [hs7] at T1
  replace T3 := Lib.hid (T3.out.other2 T2.out (.bool dq) (.slice AQ AQn AQc) (by omega))
  rw [hs7] at T3
  replace HB := Lib.hid (T2.out.grow HB.out (by omega) (.bool dq) (.slice AQ AQn AQc))
  rw [hs7] at HB
  replace T2 := Lib.hid (T2.out.store (.bool dq) (.slice AQ AQn AQc))
  rw [hs7] at T2
  clear hs7
  generalize hs9 : World.setCell (World.setCell ws6 _ _) _ _ = ws8
  replace S1 := Lib.hid (S1.out.stored T3.out (.bool dr) (.slice AR ARn ARc))
  rw [hs9] at S1
  replace S2 := Lib.hid (S2.out.stored T3.out (.bool dr) (.slice AR ARn ARc))
  rw [hs9] at S2
  replace Q := Lib.hid (Q.out.stored T3.out (.bool dr) (.slice AR ARn ARc))
  rw [hs9] at Q
  replace R := Lib.hid (R.out.stored T3.out (.bool dr) (.slice AR ARn ARc))
  rw [hs9] at R
  replace T0 := Lib.hid (T0.out.other2 T3.out (.bool dr) (.slice AR ARn ARc) (by omega))
  rw [hs9] at T0
  replace T1 := Lib.hid (T1.out.other2 T3.out (.bool dr) (.slice AR ARn ARc) (by omega))
  rw [hs9] at T1
  replace T2 := Lib.hid (T2.out.other2 T3.out (.bool dr) (.slice AR ARn ARc) (by omega))
  rw [hs9] at T2
  replace HB := Lib.hid (T3.out.grow HB.out (by omega) (.bool dr) (.slice AR ARn ARc))
  rw [hs9] at HB
  replace T3 := Lib.hid (T3.out.store (.bool dr) (.slice AR ARn ARc))
  rw [hs9] at T3
  clear hs9
  have n23 : Hid True := trivial
  have T1da := T1.out.c0
  have T1db := T1.out.c1
  have T1df := T1.out.fz 0
  have T1dg := T1.out.fz 1
  have T3da := T3.out.c0
  have T3db := T3.out.c1
  have T3df := T3.out.fz 0
  have T3dg := T3.out.fz 1
  replace T0 := Lib.hid T0.out.drew
  replace T1 := Lib.hid T1.out.drew
  replace T2 := Lib.hid T2.out.drew
  replace T3 := Lib.hid T3.out.drew
  replace S1 := Lib.hid S1.out.drew
  replace S2 := Lib.hid S2.out.drew
  replace Q := Lib.hid Q.out.drew
  replace R := Lib.hid R.out.drew
  replace HB := Lib.hid (below_drewN HB.out 1)
  have T1a := T1.out.c0
  have T1b := T1.out.c1
  have T1f := T1.out.fz 0
  have T1g := T1.out.fz 1
  have T3a := T3.out.c0
  have T3b := T3.out.c1
  have T3f := T3.out.fz 0
  have T3g := T3.out.fz 1
  have HG1 := Lib.hid (sign_rd (R.out.rds ZR.out))
  have HG2 := Lib.hid (fun w' (h : Below ws8.drew.heap.size ws8.drew w') => sign_rd (S2.out.below h))
  rw [HR.out] at HG1
  rw [HSB.out] at HG2
  go_region_held3 (fun w' => w'.cell? ⟨w.heap.size + 1 + 1 + 1, 0, none⟩ = some (.bool dr) ∧ w'.cell? ⟨w.heap.size + 1 + 1 + 1, 1, none⟩ = some (.slice AR ARn ARc) ∧ w'.cell? ⟨w.heap.size + 1, 0, none⟩ = some (.bool g2) ∧ w'.cell? ⟨w.heap.size + 1, 1, none⟩ = some (.slice A2 n2 c2))
    ((first | (refine ⟨?_, ?_, ?_, ?_⟩ <;> (with_reducible assumption))))
    (first
     | (go_at_call 24; with_reducible refine (HG1.out).mono ?_; rintro e w5 ⟨rfl, hb5⟩
        have T1x := Lib.hid (T1.out.keep hb5)
        have T3x := Lib.hid (T3.out.keep hb5)
        have T1xa := T1x.out.c0
        have T1xb := T1x.out.c1
        have T1xf := T1x.out.fz 0
        have T1xg := T1x.out.fz 1
        have T3xa := T3x.out.c0
        have T3xb := T3x.out.c1
        have T3xf := T3x.out.fz 0
        have T3xg := T3x.out.fz 1
        have HBa := Lib.hid hb5)
     | (go_at_call 24; with_reducible refine (HG2.out _ HBa.out).mono ?_; rintro e w6 ⟨rfl, hb6⟩
        have T1y := Lib.hid (T1x.out.keep hb6)
        have T3y := Lib.hid (T3x.out.keep hb6)
        have T1ya := T1y.out.c0
        have T1yb := T1y.out.c1
        have T1yf := T1y.out.fz 0
        have T1yg := T1y.out.fz 1
        have T3ya := T3y.out.c0
        have T3yb := T3y.out.c1
        have T3yf := T3y.out.fz 0
        have T3yg := T3y.out.fz 1
        have HBb := Lib.hid (HBa.out.trans (hb6.mono HBa.out.size))))
  all_goals
    rename_i hH
    clear hH HG1 HG2 hb5 hb6 HBa T1x T3x T1y T3y T1xa T1xb T1xf T1xg T1ya T1yb T1yf T1yg T3xa T3xb T3xf T3xg T3ya T3yb T3yf T3yg T1da T1db T1df T1dg T3da T3db T3df T3dg T1a T1b T1f T1g T3a T3b T3f T3g
    have hb6 := HBb.out
    clear HBb
    replace T0 := Lib.hid (T0.out.keep hb6)
    replace T1 := Lib.hid (T1.out.keep hb6)
    replace T2 := Lib.hid (T2.out.keep hb6)
    replace T3 := Lib.hid (T3.out.keep hb6)
    replace S1 := Lib.hid (S1.out.below hb6)
    replace S2 := Lib.hid (S2.out.below hb6)
    replace Q := Lib.hid (Q.out.below hb6)
    replace R := Lib.hid (R.out.below hb6)
    replace HB := Lib.hid (HB.out.trans (hb6.mono HB.out.size))
    clear hb6
    have T2a := T2.out.c0
    have T2b := T2.out.c1
    have T2f := T2.out.fz 0
    have T2g := T2.out.fz 1
    have T3a := T3.out.c0
    have T3b := T3.out.c1
    have T3f := T3.out.fz 0
    have T3g := T3.out.fz 1
    go_wp2_with fail
    clear T2a T2b T2f T2g T3a T3b T3f T3g
    have T2da := T2.out.c0
    have T2db := T2.out.c1
    have T2df := T2.out.fz 0
    have T2dg := T2.out.fz 1
    have T3da := T3.out.c0
    have T3db := T3.out.c1
    have T3df := T3.out.fz 0
    have T3dg := T3.out.fz 1
    replace T0 := Lib.hid T0.out.drew
    replace T1 := Lib.hid T1.out.drew
    replace T2 := Lib.hid T2.out.drew
    replace T3 := Lib.hid T3.out.drew
    replace S1 := Lib.hid S1.out.drew
    replace S2 := Lib.hid S2.out.drew
    replace Q := Lib.hid Q.out.drew
    replace R := Lib.hid R.out.drew
    replace HB := Lib.hid (below_drewN HB.out 1)
    have T2a := T2.out.c0
    have T2b := T2.out.c1
    have T2f := T2.out.fz 0
    have T2g := T2.out.fz 1
    have T3a := T3.out.c0
    have T3b := T3.out.c1
    have T3f := T3.out.fz 0
    have T3g := T3.out.fz 1
    have HF1 := Lib.hid (iof_calls 1 (by decide) (by decide) w6.drew)
    have HF2 := Lib.hid (fun w' (h : Below w6.drew.heap.size w6.drew w') u (hu : In w' u 1) => isub_rd ((Q.out.below h).rds ZQ.out) (hu.rds (k := 1) (Sz.small (by decide))) (Nat.le_trans HK.out.1 (by decide)) (by decide))
    rw [← E1.out] at HF2
    go_region_with (first
     | (go_at_call 31; with_reducible refine (HF1.out).mono ?_; rintro e w7 ⟨⟨u1, rfl, hv7⟩, hb7⟩
        have T2x := Lib.hid (T2.out.keep hb7)
        have T3x := Lib.hid (T3.out.keep hb7)
        have T2xa := T2x.out.c0
        have T2xb := T2x.out.c1
        have T2xf := T2x.out.fz 0
        have T2xg := T2x.out.fz 1
        have T3xa := T3x.out.c0
        have T3xb := T3x.out.c1
        have T3xf := T3x.out.fz 0
        have T3xg := T3x.out.fz 1
        obtain ⟨A7, n7, c7, rfl, hv7o⟩ := hv7.open_
        have hd7 : decide ((1 : Int) < 0) = false := rfl
        rw [hd7] at hv7o ⊢
        have HV7 := Lib.hid hv7o
        have HBa := Lib.hid hb7)
     | (go_at_call 37; with_reducible refine (HF2.out _ HBa.out _ HV7.out).mono ?_; rintro e w8 ⟨⟨u2, rfl, hv8⟩, hb8⟩
        have T2y := Lib.hid (T2x.out.keep hb8)
        have T3y := Lib.hid (T3x.out.keep hb8)
        have T2ya := T2y.out.c0
        have T2yb := T2y.out.c1
        have T2yf := T2y.out.fz 0
        have T2yg := T2y.out.fz 1
        have T3ya := T3y.out.c0
        have T3yb := T3y.out.c1
        have T3yf := T3y.out.fz 0
        have T3yg := T3y.out.fz 1
        obtain ⟨A8, n8, c8, rfl, hv8o⟩ := hv8.open_
        have HV8 := Lib.hid hv8o
        have HBb := Lib.hid (HBa.out.trans (hb8.mono HBa.out.size))))
    all_goals
      clear HF1 HF2 hb7 hb8 HBa hv7 hv7o HV7 hv8 hv8o T2x T3x T2y T3y T2xa T2xb T2xf T2xg T2ya T2yb T2yf T2yg T3xa T3xb T3xf T3xg T3ya T3yb T3yf T3yg T2da T2db T2df T2dg T3da T3db T3df T3dg T2a T2b T2f T2g T3a T3b T3f T3g
      have hb8 := HBb.out
      clear HBb
      replace T0 := Lib.hid (T0.out.keep hb8)
      replace T1 := Lib.hid (T1.out.keep hb8)
      replace T2 := Lib.hid (T2.out.keep hb8)
      replace T3 := Lib.hid (T3.out.keep hb8)
      replace S1 := Lib.hid (S1.out.below hb8)
      replace S2 := Lib.hid (S2.out.below hb8)
      replace Q := Lib.hid (Q.out.below hb8)
      replace R := Lib.hid (R.out.below hb8)
      replace HB := Lib.hid (HB.out.trans (hb8.mono HB.out.size))
      clear hb8
      have QF : Hid (In w8 (.agg #[.bool (decide (fq < 0)), .slice A8 n8 c8]) fq) := HV8
      clear HV8
      clear Q
      generalize hs11 : World.setCell (World.setCell w8 _ _) _ _ = ws10
      replace S1 := Lib.hid (S1.out.stored T2.out (.bool (decide (fq < 0))) (.slice A8 n8 c8))
      rw [hs11] at S1
      replace S2 := Lib.hid (S2.out.stored T2.out (.bool (decide (fq < 0))) (.slice A8 n8 c8))
      rw [hs11] at S2
      replace R := Lib.hid (R.out.stored T2.out (.bool (decide (fq < 0))) (.slice A8 n8 c8))
      rw [hs11] at R
      replace QF := Lib.hid (QF.out.stored T2.out (.bool (decide (fq < 0))) (.slice A8 n8 c8))
      rw [hs11] at QF
      replace T0 := Lib.hid (T0.out.other2 T2.out (.bool (decide (fq < 0))) (.slice A8 n8 c8) (by omega))
      rw [hs11] at T0
      replace T1 := Lib.hid (T1.out.other2 T2.out (.bool (decide (fq < 0))) (.slice A8 n8 c8) (by omega))
      rw [hs11] at T1
      replace T3 := Lib.hid (T3.out.other2 T2.out (.bool (decide (fq < 0))) (.slice A8 n8 c8) (by omega))
      rw [hs11] at T3
      replace HB := Lib.hid (T2.out.grow HB.out (by omega) (.bool (decide (fq < 0))) (.slice A8 n8 c8))
      rw [hs11] at HB
      replace T2 := Lib.hid (T2.out.store (.bool (decide (fq < 0))) (.slice A8 n8 c8))
      rw [hs11] at T2
      clear hs11
      have T1a := T1.out.c0
      have T1b := T1.out.c1
      have T1f := T1.out.fz 0
      have T1g := T1.out.fz 1
      have T3a := T3.out.c0
      have T3b := T3.out.c1
      have T3f := T3.out.fz 0
      have T3g := T3.out.fz 1
      go_wp2_with fail
      have HC12 := iadd_rd (R.out.rds ZR.out) S2.out (Nat.le_trans HK.out.1 (by decide)) (Nat.le_trans HK.out.2 (by decide))
      refine (HC12).mono ?_
      rintro e wc13 ⟨⟨u, rfl, hv15⟩, hb14⟩
      clear HC12
      obtain ⟨AF, AFn, AFc, rfl, hv15o⟩ := hv15.open_
      obtain ⟨df, dfh⟩ : ∃ df, decide ((zr + z2) < 0) = df := ⟨_, rfl⟩
      rw [dfh] at hv15o ⊢
      clear hv15 dfh
      clear T1a T1b T1f T1g T3a T3b T3f T3g
      replace T0 := Lib.hid (T0.out.keep hb14)
      replace T1 := Lib.hid (T1.out.keep hb14)
      replace T2 := Lib.hid (T2.out.keep hb14)
      replace T3 := Lib.hid (T3.out.keep hb14)
      replace S1 := Lib.hid (S1.out.below hb14)
      replace S2 := Lib.hid (S2.out.below hb14)
      replace R := Lib.hid (R.out.below hb14)
      replace QF := Lib.hid (QF.out.below hb14)
      replace HB := Lib.hid (HB.out.trans (hb14.mono HB.out.size))
      clear hb14
      have RF := Lib.hid (hv15o)
      clear hv15o
      rw [← E2.out] at RF
      have T2a := T2.out.c0
      have T2b := T2.out.c1
      have T2f := T2.out.fz 0
      have T2g := T2.out.fz 1
      have T3a := T3.out.c0
      have T3b := T3.out.c1
      have T3f := T3.out.fz 0
      have T3g := T3.out.fz 1
      go_wp2_with fail
      clear T2a T2b T2f T2g T3a T3b T3f T3g
      generalize hs17 : World.setCell (World.setCell wc13 _ _) _ _ = ws16
      replace S1 := Lib.hid (S1.out.stored T3.out (.bool df) (.slice AF AFn AFc))
      rw [hs17] at S1
      replace S2 := Lib.hid (S2.out.stored T3.out (.bool df) (.slice AF AFn AFc))
      rw [hs17] at S2
      replace R := Lib.hid (R.out.stored T3.out (.bool df) (.slice AF AFn AFc))
      rw [hs17] at R
      replace QF := Lib.hid (QF.out.stored T3.out (.bool df) (.slice AF AFn AFc))
      rw [hs17] at QF
      replace RF := Lib.hid (RF.out.stored T3.out (.bool df) (.slice AF AFn AFc))
      rw [hs17] at RF
      replace T0 := Lib.hid (T0.out.other2 T3.out (.bool df) (.slice AF AFn AFc) (by omega))
      rw [hs17] at T0
      replace T1 := Lib.hid (T1.out.other2 T3.out (.bool df) (.slice AF AFn AFc) (by omega))
      rw [hs17] at T1
      replace T2 := Lib.hid (T2.out.other2 T3.out (.bool df) (.slice AF AFn AFc) (by omega))
      rw [hs17] at T2
      replace HB := Lib.hid (T3.out.grow HB.out (by omega) (.bool df) (.slice AF AFn AFc))
      rw [hs17] at HB
      replace T3 := Lib.hid (T3.out.store (.bool df) (.slice AF AFn AFc))
      rw [hs17] at T3
      clear hs17
      have T2a := T2.out.c0
      have T2b := T2.out.c1
      have T2f := T2.out.fz 0
      have T2g := T2.out.fz 1
      have T3a := T3.out.c0
      have T3b := T3.out.c1
      have T3f := T3.out.fz 0
      have T3g := T3.out.fz 1
      go_region
      all_goals
        clear T2a T2b T2f T2g T3a T3b T3f T3g
        generalize hs19 : World.setCell (World.setCell ws16 _ _) _ _ = ws18
        replace S1 := Lib.hid (S1.out.stored T2.out (.bool (decide (fq < 0))) (.slice A8 n8 c8))
        rw [hs19] at S1
        replace S2 := Lib.hid (S2.out.stored T2.out (.bool (decide (fq < 0))) (.slice A8 n8 c8))
        rw [hs19] at S2
        replace R := Lib.hid (R.out.stored T2.out (.bool (decide (fq < 0))) (.slice A8 n8 c8))
        rw [hs19] at R
        replace QF := Lib.hid (QF.out.stored T2.out (.bool (decide (fq < 0))) (.slice A8 n8 c8))
        rw [hs19] at QF
        replace RF := Lib.hid (RF.out.stored T2.out (.bool (decide (fq < 0))) (.slice A8 n8 c8))
        rw [hs19] at RF
        replace T0 := Lib.hid (T0.out.other2 T2.out (.bool (decide (fq < 0))) (.slice A8 n8 c8) (by omega))
        rw [hs19] at T0
        replace T1 := Lib.hid (T1.out.other2 T2.out (.bool (decide (fq < 0))) (.slice A8 n8 c8) (by omega))
        rw [hs19] at T1
        replace T3 := Lib.hid (T3.out.other2 T2.out (.bool (decide (fq < 0))) (.slice A8 n8 c8) (by omega))
        rw [hs19] at T3
        replace HB := Lib.hid (T2.out.grow HB.out (by omega) (.bool (decide (fq < 0))) (.slice A8 n8 c8))
        rw [hs19] at HB
        replace T2 := Lib.hid (T2.out.store (.bool (decide (fq < 0))) (.slice A8 n8 c8))
        rw [hs19] at T2
        clear hs19
        generalize hs21 : World.setCell (World.setCell ws18 _ _) _ _ = ws20
        replace S1 := Lib.hid (S1.out.stored T3.out (.bool df) (.slice AF AFn AFc))
        rw [hs21] at S1
        replace S2 := Lib.hid (S2.out.stored T3.out (.bool df) (.slice AF AFn AFc))
        rw [hs21] at S2
        replace R := Lib.hid (R.out.stored T3.out (.bool df) (.slice AF AFn AFc))
        rw [hs21] at R
        replace QF := Lib.hid (QF.out.stored T3.out (.bool df) (.slice AF AFn AFc))
        rw [hs21] at QF
        replace RF := Lib.hid (RF.out.stored T3.out (.bool df) (.slice AF AFn AFc))
        rw [hs21] at RF
        replace T0 := Lib.hid (T0.out.other2 T3.out (.bool df) (.slice AF AFn AFc) (by omega))
        rw [hs21] at T0
        replace T1 := Lib.hid (T1.out.other2 T3.out (.bool df) (.slice AF AFn AFc) (by omega))
        rw [hs21] at T1
        replace T2 := Lib.hid (T2.out.other2 T3.out (.bool df) (.slice AF AFn AFc) (by omega))
        rw [hs21] at T2
        replace HB := Lib.hid (T3.out.grow HB.out (by omega) (.bool df) (.slice AF AFn AFc))
        rw [hs21] at HB
        replace T3 := Lib.hid (T3.out.store (.bool df) (.slice AF AFn AFc))
        rw [hs21] at T3
        clear hs21
        have T2a := T2.out.c0
        have T2b := T2.out.c1
        have T2f := T2.out.fz 0
        have T2g := T2.out.fz 1
        have T3a := T3.out.c0
        have T3b := T3.out.c1
        have T3f := T3.out.fz 0
        have T3g := T3.out.fz 1
        go_wp2_with fail
        exact bodyPost_ret (v := .tuple #[.agg #[.bool (decide (fq < 0)), .slice A8 n8 c8], .agg #[.bool df, .slice AF AFn AFc], .int .i64 0]) (by simp [results, Try.results14, go_sem, T2a, T2b, T3a, T3b]) rfl ⟨⟨_, _, rfl, QF.out.drew, RF.out.drew⟩, HB.out.drew⟩

set_option maxHeartbeats 4000000 in
set_option maxRecDepth 100000 in
theorem floor_pos (v1 v2 : Value) (z1 z2 : Int) (k1 k2 : Nat) (w : World) (h1 : Rd w v1 z1 k1) (h2 : Rd w v2 z2 k2) (q1 : k1 ≤ 100000) (q2 : k2 ≤ 100000) (hz : z2 ≠ 0) (hs : ¬ Int.sign (Int.tmod z1 z2) * Int.sign z2 < 0) :
    Calls Try.prog 14 #[v1, v2] w fun e w' => (∃ q r, e = .returned (.tuple #[q, r, .int .i64 0]) ∧ In w' q (Int.fdiv z1 z2) ∧ In w' r (Int.fmod z1 z2)) ∧ Below w.heap.size w w' := by
  obtain ⟨g1, A1, n1, c1, rfl, hs1⟩ := h1.open_
  obtain ⟨g2, A2, n2, c2, rfl, hs2⟩ := h2.open_
  have hbx := boxes4 w (.bool g1) (.slice A1 n1 c1) (.bool g2) (.slice A2 n2 c2)
  generalize hW : ((((w.alloc (.cells #[.bool g1, .slice A1 n1 c1] 25)).alloc (.cells #[.bool g2, .slice A2 n2 c2] 25)).alloc (.cells #[.bool false, .slice none 0 0] 25)).alloc (.cells #[.bool false, .slice none 0 0] 25))  = W at hbx
  obtain ⟨hbw, ht0, ht1, ht2, ht3⟩ := hbx
  have T0 := Lib.hid ht0
  have T1 := Lib.hid ht1
  have T2 := Lib.hid ht2
  have T3 := Lib.hid ht3
  have S1 := Lib.hid (hs1.below hbw)
  have S2 := Lib.hid (hs2.below hbw)
  have HB := Lib.hid hbw
  have HW := Lib.hid hW
  clear h1 h2 hs1 hs2 hbw ht0 ht1 ht2 ht3 hW
  have HQ := Lib.hid (quo_rd S1.out S2.out q1 q2 hz)
  have HZ := Lib.hid hz
  have HK := Lib.hid (And.intro q1 q2)
  have ZQ := Lib.hid (Sz.tdiv (y := z2) S1.out.sz)
  have ZR := Lib.hid (Sz.tmod (y := z2) S1.out.sz)
  obtain ⟨e1, e2⟩ := fl_same hz hs
  have E1 := Lib.hid e1
  have E2 := Lib.hid e2
  clear e1 e2 q1 q2 hz
  generalize Int.fdiv z1 z2 = fq at *
  generalize Int.fmod z1 z2 = fr at *
  generalize Int.tdiv z1 z2 = zq at *
  generalize Int.tmod z1 z2 = zr at *
  obtain ⟨sr, hsr⟩ : ∃ s, Int.sign zr = s := ⟨_, rfl⟩
  obtain ⟨sb, hsb⟩ : ∃ s, Int.sign z2 = s := ⟨_, rfl⟩
  rw [hsr, hsb] at hs
  have hw : wrap64 (sr * sb) = sr * sb := by
    rw [← hsr, ← hsb]
    exact wrap_sign _ _
  have hw' : IntKind.i64.wrap (sr * sb) = sr * sb := by
    rw [← hsr, ← hsb]
    exact wrap_sign' _ _
  have HR := Lib.hid hsr
  have HSB := Lib.hid hsb
  clear hsr hsb
  obtain ⟨sp, hsp⟩ : ∃ s, sr * sb = s := ⟨_, rfl⟩
  rw [hsp] at hs hw hw'
  have T0a := T0.out.c0
  have T0b := T0.out.c1
  have T0f := T0.out.fz 0
  have T0g := T0.out.fz 1
  have T1a := T1.out.c0
  have T1b := T1.out.c1
  have T1f := T1.out.fz 0
  have T1g := T1.out.fz 1
  have T2a := T2.out.c0
  have T2b := T2.out.c1
  have T2f := T2.out.fz 0
  have T2g := T2.out.fz 1
  have T3a := T3.out.c0
  have T3b := T3.out.c1
  have T3f := T3.out.fz 0
  have T3g := T3.out.fz 1
  go_enter Try.func14, Try.ntmps14
  go_wp2_with fail
  rw [HW.out]
  have HC1 := HQ.out
  refine (HC1).mono ?_
  rintro e wc2 ⟨⟨u, u', rfl, hv4, hu5⟩, hb3⟩
  clear HC1
  obtain ⟨AQ, AQn, AQc, rfl, hv4o⟩ := hv4.open_
  obtain ⟨dq, dqh⟩ : ∃ dq, decide (zq < 0) = dq := ⟨_, rfl⟩
  rw [dqh] at hv4o ⊢
  clear hv4 dqh
  obtain ⟨AR, ARn, ARc, rfl, hu5o⟩ := hu5.open_
  obtain ⟨dr, drh⟩ : ∃ dr, decide (zr < 0) = dr := ⟨_, rfl⟩
  rw [drh] at hu5o ⊢
  clear hu5 drh
  clear T0a T0b T0f T0g T1a T1b T1f T1g T2a T2b T2f T2g T3a T3b T3f T3g
  replace T0 := Lib.hid (T0.out.keep hb3)
  replace T1 := Lib.hid (T1.out.keep hb3)
  replace T2 := Lib.hid (T2.out.keep hb3)
  replace T3 := Lib.hid (T3.out.keep hb3)
  replace S1 := Lib.hid (S1.out.below hb3)
  replace S2 := Lib.hid (S2.out.below hb3)
  replace HB := Lib.hid (HB.out.trans (hb3.mono HB.out.size))
  clear hb3
  have Q := Lib.hid (hv4o)
  clear hv4o
  have R := Lib.hid (hu5o)
  clear hu5o
  clear HQ
  have T0a := T0.out.c0
  have T0b := T0.out.c1
  have T0f := T0.out.fz 0
  have T0g := T0.out.fz 1
  have T1a := T1.out.c0
  have T1b := T1.out.c1
  have T1f := T1.out.fz 0
  have T1g := T1.out.fz 1
  have T2a := T2.out.c0
  have T2b := T2.out.c1
  have T2f := T2.out.fz 0
  have T2g := T2.out.fz 1
  have T3a := T3.out.c0
  have T3b := T3.out.c1
  have T3f := T3.out.fz 0
  have T3g := T3.out.fz 1
  go_wp2_with fail
  clear T0a T0b T0f T0g T1a T1b T1f T1g T2a T2b T2f T2g T3a T3b T3f T3g
  generalize hs7 : World.setCell (World.setCell wc2 _ _) _ _ = ws6
  replace S1 := Lib.hid (S1.out.stored T2.out (.bool dq) (.slice AQ AQn AQc))
  rw [hs7] at S1
  replace S2 := Lib.hid (S2.out.stored T2.out (.bool dq) (.slice AQ AQn AQc))
  rw [hs7] at S2
  replace Q := Lib.hid (Q.out.stored T2.out (.bool dq) (.slice AQ AQn AQc))
  rw [hs7] at Q
  replace R := Lib.hid (R.out.stored T2.out (.bool dq) (.slice AQ AQn AQc))
  rw [hs7] at R
  replace T0 := Lib.hid (T0.out.other2 T2.out (.bool dq) (.slice AQ AQn AQc) (by omega))
  rw [hs7] at T0
  replace T1 := Lib.hid (T1.out.other2 T2.out (.bool dq) (.slice AQ AQn AQc) (by omega))
  rw [hs7] at T1
  replace T3 := Lib.hid (T3.out.other2 T2.out (.bool dq) (.slice AQ AQn AQc) (by omega))
  rw [hs7] at T3
  replace HB := Lib.hid (T2.out.grow HB.out (by omega) (.bool dq) (.slice AQ AQn AQc))
  rw [hs7] at HB
  replace T2 := Lib.hid (T2.out.store (.bool dq) (.slice AQ AQn AQc))
  rw [hs7] at T2
  clear hs7
  generalize hs9 : World.setCell (World.setCell ws6 _ _) _ _ = ws8
  replace S1 := Lib.hid (S1.out.stored T3.out (.bool dr) (.slice AR ARn ARc))
  rw [hs9] at S1
  replace S2 := Lib.hid (S2.out.stored T3.out (.bool dr) (.slice AR ARn ARc))
  rw [hs9] at S2
  replace Q := Lib.hid (Q.out.stored T3.out (.bool dr) (.slice AR ARn ARc))
  rw [hs9] at Q
  replace R := Lib.hid (R.out.stored T3.out (.bool dr) (.slice AR ARn ARc))
  rw [hs9] at R
  replace T0 := Lib.hid (T0.out.other2 T3.out (.bool dr) (.slice AR ARn ARc) (by omega))
  rw [hs9] at T0
  replace T1 := Lib.hid (T1.out.other2 T3.out (.bool dr) (.slice AR ARn ARc) (by omega))
  rw [hs9] at T1
  replace T2 := Lib.hid (T2.out.other2 T3.out (.bool dr) (.slice AR ARn ARc) (by omega))
  rw [hs9] at T2
  replace HB := Lib.hid (T3.out.grow HB.out (by omega) (.bool dr) (.slice AR ARn ARc))
  rw [hs9] at HB
  replace T3 := Lib.hid (T3.out.store (.bool dr) (.slice AR ARn ARc))
  rw [hs9] at T3
  clear hs9
  have n23 : Hid True := trivial
  have T1da := T1.out.c0
  have T1db := T1.out.c1
  have T1df := T1.out.fz 0
  have T1dg := T1.out.fz 1
  have T3da := T3.out.c0
  have T3db := T3.out.c1
  have T3df := T3.out.fz 0
  have T3dg := T3.out.fz 1
  replace T0 := Lib.hid T0.out.drew
  replace T1 := Lib.hid T1.out.drew
  replace T2 := Lib.hid T2.out.drew
  replace T3 := Lib.hid T3.out.drew
  replace S1 := Lib.hid S1.out.drew
  replace S2 := Lib.hid S2.out.drew
  replace Q := Lib.hid Q.out.drew
  replace R := Lib.hid R.out.drew
  replace HB := Lib.hid (below_drewN HB.out 1)
  have T1a := T1.out.c0
  have T1b := T1.out.c1
  have T1f := T1.out.fz 0
  have T1g := T1.out.fz 1
  have T3a := T3.out.c0
  have T3b := T3.out.c1
  have T3f := T3.out.fz 0
  have T3g := T3.out.fz 1
  have HG1 := Lib.hid (sign_rd (R.out.rds ZR.out))
  have HG2 := Lib.hid (fun w' (h : Below ws8.drew.heap.size ws8.drew w') => sign_rd (S2.out.below h))
  rw [HR.out] at HG1
  rw [HSB.out] at HG2
  go_region_held3 (fun w' => w'.cell? ⟨w.heap.size + 1 + 1 + 1, 0, none⟩ = some (.bool dr) ∧ w'.cell? ⟨w.heap.size + 1 + 1 + 1, 1, none⟩ = some (.slice AR ARn ARc) ∧ w'.cell? ⟨w.heap.size + 1, 0, none⟩ = some (.bool g2) ∧ w'.cell? ⟨w.heap.size + 1, 1, none⟩ = some (.slice A2 n2 c2))
    ((first | (refine ⟨?_, ?_, ?_, ?_⟩ <;> (with_reducible assumption))))
    (first
     | (go_at_call 24; with_reducible refine (HG1.out).mono ?_; rintro e w5 ⟨rfl, hb5⟩
        have T1x := Lib.hid (T1.out.keep hb5)
        have T3x := Lib.hid (T3.out.keep hb5)
        have T1xa := T1x.out.c0
        have T1xb := T1x.out.c1
        have T1xf := T1x.out.fz 0
        have T1xg := T1x.out.fz 1
        have T3xa := T3x.out.c0
        have T3xb := T3x.out.c1
        have T3xf := T3x.out.fz 0
        have T3xg := T3x.out.fz 1
        have HBa := Lib.hid hb5)
     | (go_at_call 24; with_reducible refine (HG2.out _ HBa.out).mono ?_; rintro e w6 ⟨rfl, hb6⟩
        have T1y := Lib.hid (T1x.out.keep hb6)
        have T3y := Lib.hid (T3x.out.keep hb6)
        have T1ya := T1y.out.c0
        have T1yb := T1y.out.c1
        have T1yf := T1y.out.fz 0
        have T1yg := T1y.out.fz 1
        have T3ya := T3y.out.c0
        have T3yb := T3y.out.c1
        have T3yf := T3y.out.fz 0
        have T3yg := T3y.out.fz 1
        have HBb := Lib.hid (HBa.out.trans (hb6.mono HBa.out.size))))
  all_goals
    rename_i hH
    clear hH HG1 HG2 hb5 hb6 HBa T1x T3x T1y T3y T1xa T1xb T1xf T1xg T1ya T1yb T1yf T1yg T3xa T3xb T3xf T3xg T3ya T3yb T3yf T3yg T1da T1db T1df T1dg T3da T3db T3df T3dg T1a T1b T1f T1g T3a T3b T3f T3g
    have hb6 := HBb.out
    clear HBb
    replace T0 := Lib.hid (T0.out.keep hb6)
    replace T1 := Lib.hid (T1.out.keep hb6)
    replace T2 := Lib.hid (T2.out.keep hb6)
    replace T3 := Lib.hid (T3.out.keep hb6)
    replace S1 := Lib.hid (S1.out.below hb6)
    replace S2 := Lib.hid (S2.out.below hb6)
    replace Q := Lib.hid (Q.out.below hb6)
    replace R := Lib.hid (R.out.below hb6)
    replace HB := Lib.hid (HB.out.trans (hb6.mono HB.out.size))
    clear hb6
    have T2a := T2.out.c0
    have T2b := T2.out.c1
    have T2f := T2.out.fz 0
    have T2g := T2.out.fz 1
    have T3a := T3.out.c0
    have T3b := T3.out.c1
    have T3f := T3.out.fz 0
    have T3g := T3.out.fz 1
    go_wp2_with fail
    rw [← E1.out] at Q
    rw [← E2.out] at R
    go_region
    all_goals
      clear T2a T2b T2f T2g T3a T3b T3f T3g
      generalize hs11 : World.setCell (World.setCell w6 _ _) _ _ = ws10
      replace S1 := Lib.hid (S1.out.stored T2.out (.bool dq) (.slice AQ AQn AQc))
      rw [hs11] at S1
      replace S2 := Lib.hid (S2.out.stored T2.out (.bool dq) (.slice AQ AQn AQc))
      rw [hs11] at S2
      replace Q := Lib.hid (Q.out.stored T2.out (.bool dq) (.slice AQ AQn AQc))
      rw [hs11] at Q
      replace R := Lib.hid (R.out.stored T2.out (.bool dq) (.slice AQ AQn AQc))
      rw [hs11] at R
      replace T0 := Lib.hid (T0.out.other2 T2.out (.bool dq) (.slice AQ AQn AQc) (by omega))
      rw [hs11] at T0
      replace T1 := Lib.hid (T1.out.other2 T2.out (.bool dq) (.slice AQ AQn AQc) (by omega))
      rw [hs11] at T1
      replace T3 := Lib.hid (T3.out.other2 T2.out (.bool dq) (.slice AQ AQn AQc) (by omega))
      rw [hs11] at T3
      replace HB := Lib.hid (T2.out.grow HB.out (by omega) (.bool dq) (.slice AQ AQn AQc))
      rw [hs11] at HB
      replace T2 := Lib.hid (T2.out.store (.bool dq) (.slice AQ AQn AQc))
      rw [hs11] at T2
      clear hs11
      generalize hs13 : World.setCell (World.setCell ws10 _ _) _ _ = ws12
      replace S1 := Lib.hid (S1.out.stored T3.out (.bool dr) (.slice AR ARn ARc))
      rw [hs13] at S1
      replace S2 := Lib.hid (S2.out.stored T3.out (.bool dr) (.slice AR ARn ARc))
      rw [hs13] at S2
      replace Q := Lib.hid (Q.out.stored T3.out (.bool dr) (.slice AR ARn ARc))
      rw [hs13] at Q
      replace R := Lib.hid (R.out.stored T3.out (.bool dr) (.slice AR ARn ARc))
      rw [hs13] at R
      replace T0 := Lib.hid (T0.out.other2 T3.out (.bool dr) (.slice AR ARn ARc) (by omega))
      rw [hs13] at T0
      replace T1 := Lib.hid (T1.out.other2 T3.out (.bool dr) (.slice AR ARn ARc) (by omega))
      rw [hs13] at T1
      replace T2 := Lib.hid (T2.out.other2 T3.out (.bool dr) (.slice AR ARn ARc) (by omega))
      rw [hs13] at T2
      replace HB := Lib.hid (T3.out.grow HB.out (by omega) (.bool dr) (.slice AR ARn ARc))
      rw [hs13] at HB
      replace T3 := Lib.hid (T3.out.store (.bool dr) (.slice AR ARn ARc))
      rw [hs13] at T3
      clear hs13
      have T2a := T2.out.c0
      have T2b := T2.out.c1
      have T2f := T2.out.fz 0
      have T2g := T2.out.fz 1
      have T3a := T3.out.c0
      have T3b := T3.out.c1
      have T3f := T3.out.fz 0
      have T3g := T3.out.fz 1
      go_wp2_with fail
      exact bodyPost_ret (v := .tuple #[.agg #[.bool dq, .slice AQ AQn AQc], .agg #[.bool dr, .slice AR ARn ARc], .int .i64 0]) (by simp [results, Try.results14, go_sem, T2a, T2b, T3a, T3b]) rfl ⟨⟨_, _, rfl, Q.out.drew, R.out.drew⟩, HB.out.drew⟩

theorem floor_rd {v1 v2 : Value} {z1 z2 : Int} {k1 k2 : Nat} {w : World} (h1 : Rd w v1 z1 k1) (h2 : Rd w v2 z2 k2) (q1 : k1 ≤ 100000) (q2 : k2 ≤ 100000) (hz : z2 ≠ 0) :
    Calls Try.prog 14 #[v1, v2] w fun e w' => (∃ q r, e = .returned (.tuple #[q, r, .int .i64 0]) ∧ In w' q (Int.fdiv z1 z2) ∧ In w' r (Int.fmod z1 z2)) ∧ Below w.heap.size w w' := by
  by_cases hs : Int.sign (Int.tmod z1 z2) * Int.sign z2 < 0
  · exact floor_neg v1 v2 z1 z2 k1 k2 w h1 h2 q1 q2 hz hs
  · exact floor_pos v1 v2 z1 z2 k1 k2 w h1 h2 q1 q2 hz hs

end Go.Proofs.Ytgmooidagkbheaa
