/-
  Package integer: Shl, Add, Sub.
-/
import Derived.Test.YtgmooidagkbheaaIm
namespace Go.Proofs.Ytgmooidagkbheaa
open Go.RowKit Go.Proofs.YtgmooidagkbheaaW.PrintWords
set_option linter.unusedVariables false

theorem boxes2 (w : World) (a b c d : Value) : Below w.heap.size w ((w.alloc (.cells #[a, b] 25)).alloc (.cells #[c, d] 25)) ∧
    Two ((w.alloc (.cells #[a, b] 25)).alloc (.cells #[c, d] 25)) w.heap.size a b ∧ Two ((w.alloc (.cells #[a, b] 25)).alloc (.cells #[c, d] 25)) (w.heap.size + 1) c d :=
  ⟨boxed2 _ _ _, (Two.made w _ _).alloc _, Two.made2 w _ _ _⟩
theorem boxes3 (w : World) (a b c d : Value) : Below w.heap.size w (((w.alloc (.cells #[a, b] 25)).alloc (.cells #[c, d] 25)).alloc (.cells #[.bool false, .slice none 0 0] 25)) ∧
    Two (((w.alloc (.cells #[a, b] 25)).alloc (.cells #[c, d] 25)).alloc (.cells #[.bool false, .slice none 0 0] 25)) w.heap.size a b ∧
    Two (((w.alloc (.cells #[a, b] 25)).alloc (.cells #[c, d] 25)).alloc (.cells #[.bool false, .slice none 0 0] 25)) (w.heap.size + 1) c d ∧
    Two (((w.alloc (.cells #[a, b] 25)).alloc (.cells #[c, d] 25)).alloc (.cells #[.bool false, .slice none 0 0] 25)) (w.heap.size + 1 + 1) (.bool false) (.slice none 0 0) := by
  refine ⟨boxed3 _ _ _ _, ((Two.made w _ _).alloc _).alloc _, (Two.made2 w _ _ _).alloc _, ?_⟩
  have := Two.made2 (w.alloc (.cells #[a, b] 25)) (.cells #[c, d] 25) (.bool false) (.slice none 0 0)
  simpa using this
theorem iz_shl (g : Bool) (l : List Nat) (n : Nat) : (if g = true then -((val l * 2 ^ n : Nat) : Int) else ((val l * 2 ^ n : Nat) : Int)) = iz g l * 2 ^ n := by
  unfold iz
  cases g <;> simp [Int.neg_mul]
theorem iz_add_same (g : Bool) (l l' : List Nat) : (if g = true then -((val l + val l' : Nat) : Int) else ((val l + val l' : Nat) : Int)) = iz g l + iz g l' := by
  unfold iz
  cases g <;> simp <;> omega
theorem iz_add_ge (g : Bool) (l l' : List Nat) (h : val l' ≤ val l) : (if g = true then -((val l - val l' : Nat) : Int) else ((val l - val l' : Nat) : Int)) = iz g l + iz (!g) l' := by
  unfold iz
  cases g <;> simp <;> omega
theorem iz_add_lt (g : Bool) (l l' : List Nat) (h : val l ≤ val l') : (if (!g) = true then -((val l' - val l : Nat) : Int) else ((val l' - val l : Nat) : Int)) = iz g l + iz (!g) l' := by
  unfold iz
  cases g <;> simp <;> omega

set_option maxHeartbeats 2000000 in
set_option maxRecDepth 100000 in
theorem ishl_calls (v : Value) (g : Bool) (l : List Nat) (n : Nat) (w : World) (h : Iv w v g l) (k : l.length ≤ 1000000) (hn : n ≤ 16777216) :
    Calls Try.prog 63 #[v, .int .i64 n] w fun e w' => (∃ v, e = .returned v ∧ In w' v (iz g l * 2 ^ n)) ∧ Below w.heap.size w w' := by
  obtain ⟨A, c, rfl, a1, b1, hs⟩ := h.open_
  have hbx := boxes2 w (.bool g) (.slice A l.length c) (.bool false) (.slice none 0 0)
  generalize hW : (w.alloc (.cells #[.bool g, .slice A l.length c] 25)).alloc (.cells #[.bool false, .slice none 0 0] 25) = W at hbx
  obtain ⟨hbw, ht1, ht2⟩ := hbx
  have HM := Lib.hid (nshl_calls _ l n W.drew (hs.below hbw).drew k hn)
  have HT1 := Lib.hid ht1.drew
  have HT2 := Lib.hid ht2.drew
  have p1 := HT1.out.c0
  have p2 := HT1.out.c1
  have HBW : Hid (Below w.heap.size w W.drew) := Lib.hid (below_drewN hbw 1)
  have HIZ := Lib.hid (iz_shl g l n)
  have HW := Lib.hid hW
  clear h hs a1 b1 k hbw ht1 ht2 hW
  generalize iz g l * 2 ^ n = z at *
  generalize val l * 2 ^ n = m at *
  go_enter Try.func63, Try.ntmps63
  go_wp2_with fail
  rw [HW.out]
  go_region_held3 (fun w' => w'.cell? ⟨w.heap.size, 0, none⟩ = some (.bool g) ∧ w'.cell? ⟨w.heap.size, 1, none⟩ = some (.slice A l.length c))
    ((first | (refine ⟨?_, ?_⟩ <;> assumption) | (refine ⟨?_, ?_⟩ <;> (rw [two_cell _ _ _ _ _ _ (by omega)]; assumption))))
    (first
     | (go_at_call 74; refine (HM.out).mono ?_; rintro e w1 ⟨⟨u1, rfl, hv1⟩, hb1⟩; obtain ⟨A3, c3, rfl, q0, q1, hv2⟩ := hv1.open_
        have HU := Lib.hid hv2
        have HQ := Lib.hid (Nat.le_trans q0 q1)
        have HB1 := Lib.hid (HBW.out.trans (hb1.mono HBW.out.size))
        have HX0 := Lib.hid (HT1.out.keep hb1)
        have r00 := HX0.out.c0
        have r01 := HX0.out.c1
        have HX1 := Lib.hid (HT2.out.keep hb1)
        have r10 := HX1.out.c0
        have r11 := HX1.out.c1
        have r12 := HX1.out.fz 0
        have r13 := HX1.out.fz 1)
     | (go_at_call 56; refine (signed_raw _ _ _ _ _ HQ.out).mono ?_; rintro e w2 ⟨rfl, hb2⟩
        have HU2 := Lib.hid (HU.out.below hb2)
        have HB2 := Lib.hid (HB1.out.trans (hb2.mono HB1.out.size))
        have HY0 := Lib.hid (HX0.out.keep hb2)
        have s00 := HY0.out.c0
        have s01 := HY0.out.c1
        have HY1 := Lib.hid (HX1.out.keep hb2)
        have s10 := HY1.out.c0
        have s11 := HY1.out.c1
        have s12 := HY1.out.fz 0
        have s13 := HY1.out.fz 1))
  all_goals
    rename_i hH
    clear hH
    clear r00 r01 r10 r11 s00 s01
    go_wp2_with fail
    refine bodyPost_ret (v := .agg #[.bool (g && decide (0 < (dg m).length)), .slice A3 (dg m).length c3]) (by simp [results, Try.results63, go_sem, s10, s11]) rfl ⟨⟨_, rfl, ?_⟩, Below.two HB2.out (by omega) _ _⟩
    rw [← HIZ.out]
    exact (in_signed g HU2.out).apart HY1.out (two_other _ _ _ _) (two_size _ _ _ _)

set_option maxHeartbeats 2000000 in
set_option maxRecDepth 100000 in
theorem iadd_same (v1 v2 : Value) (g : Bool) (l1 l2 : List Nat) (w : World) (h1 : Iv w v1 g l1) (h2 : Iv w v2 g l2) (k1 : l1.length ≤ 1000000) (k2 : l2.length ≤ 1000000) :
    Calls Try.prog 28 #[v1, v2] w fun e w' => (∃ v, e = .returned v ∧ In w' v (iz g l1 + iz g l2)) ∧ Below w.heap.size w w' := by
  obtain ⟨A1, c1, rfl, a1, b1, hs1⟩ := h1.open_
  obtain ⟨A2, c2, rfl, a2, b2, hs2⟩ := h2.open_
  have hbx := boxes3 w (.bool g) (.slice A1 l1.length c1) (.bool g) (.slice A2 l2.length c2)
  generalize hW : ((w.alloc (.cells #[.bool g, .slice A1 l1.length c1] 25)).alloc (.cells #[.bool g, .slice A2 l2.length c2] 25)).alloc (.cells #[.bool false, .slice none 0 0] 25) = W at hbx
  obtain ⟨hbw, ht1, ht2, ht3⟩ := hbx
  have HM := Lib.hid (nadd_calls _ _ l1 l2 W.drew (hs1.below hbw).drew (hs2.below hbw).drew k1 k2)
  have HT1 := Lib.hid ht1.drew
  have HT2 := Lib.hid ht2.drew
  have HT3 := Lib.hid ht3.drew
  have p1 := HT1.out.c0
  have p2 := HT1.out.c1
  have p4 := HT2.out.c1
  have x1 := ht1.c0
  have x2 := ht2.c0
  have HBW : Hid (Below w.heap.size w W.drew) := Lib.hid (below_drewN hbw 1)
  have HIZ := Lib.hid (iz_add_same g l1 l2)
  have HW := Lib.hid hW
  clear h1 h2 hs1 hs2 a1 a2 b1 b2 k1 k2 hbw ht1 ht2 ht3 hW
  generalize iz g l1 + iz g l2 = z at *
  generalize val l1 + val l2 = m at *
  go_enter Try.func28, Try.ntmps28
  go_wp2_with fail
  rw [HW.out]
  go_region_held3 (fun w' => w'.cell? ⟨w.heap.size, 0, none⟩ = some (.bool g) ∧ w'.cell? ⟨w.heap.size, 1, none⟩ = some (.slice A1 l1.length c1) ∧ w'.cell? ⟨w.heap.size + 1, 1, none⟩ = some (.slice A2 l2.length c2))
    ((first | (refine ⟨?_, ?_, ?_⟩ <;> assumption) | (refine ⟨?_, ?_, ?_⟩ <;> (rw [two_cell _ _ _ _ _ _ (by omega)]; assumption))))
    (first
     | (go_at_call 57; refine (HM.out).mono ?_; rintro e w1 ⟨⟨u1, rfl, hv1⟩, hb1⟩; obtain ⟨A3, c3, rfl, q0, q1, hv2⟩ := hv1.open_
        have HU := Lib.hid hv2
        have HQ := Lib.hid (Nat.le_trans q0 q1)
        have HB1 := Lib.hid (HBW.out.trans (hb1.mono HBW.out.size))
        have HX0 := Lib.hid (HT1.out.keep hb1)
        have r00 := HX0.out.c0
        have r01 := HX0.out.c1
        have HX1 := Lib.hid (HT2.out.keep hb1)
        have r10 := HX1.out.c0
        have r11 := HX1.out.c1
        have HX2 := Lib.hid (HT3.out.keep hb1)
        have r20 := HX2.out.c0
        have r21 := HX2.out.c1
        have r22 := HX2.out.fz 0
        have r23 := HX2.out.fz 1)
     | (go_at_call 56; refine (signed_raw _ _ _ _ _ HQ.out).mono ?_; rintro e w2 ⟨rfl, hb2⟩
        have HU2 := Lib.hid (HU.out.below hb2)
        have HB2 := Lib.hid (HB1.out.trans (hb2.mono HB1.out.size))
        have HY0 := Lib.hid (HX0.out.keep hb2)
        have s00 := HY0.out.c0
        have s01 := HY0.out.c1
        have HY1 := Lib.hid (HX1.out.keep hb2)
        have s10 := HY1.out.c0
        have s11 := HY1.out.c1
        have HY2 := Lib.hid (HX2.out.keep hb2)
        have s20 := HY2.out.c0
        have s21 := HY2.out.c1
        have s22 := HY2.out.fz 0
        have s23 := HY2.out.fz 1))
  all_goals
    rename_i hH
    clear hH
    clear r00 r01 r10 r11 r20 r21 s00 s01 s10 s11
    go_wp2_with fail
    refine bodyPost_ret (v := .agg #[.bool (g && decide (0 < (dg m).length)), .slice A3 (dg m).length c3]) (by simp [results, Try.results28, go_sem, s20, s21]) rfl ⟨⟨_, rfl, ?_⟩, Below.two HB2.out (by omega) _ _⟩
    rw [← HIZ.out]
    exact (in_signed g HU2.out).apart HY2.out (two_other _ _ _ _) (two_size _ _ _ _)

set_option maxHeartbeats 2000000 in
set_option maxRecDepth 100000 in
theorem iadd_ge (v1 v2 : Value) (g : Bool) (l1 l2 : List Nat) (w : World) (h1 : Iv w v1 g l1) (h2 : Iv w v2 (!g) l2) (k1 : l1.length ≤ 1000000) (k2 : l2.length ≤ 1000000) (hx : val l2 ≤ val l1) :
    Calls Try.prog 28 #[v1, v2] w fun e w' => (∃ v, e = .returned v ∧ In w' v (iz g l1 + iz (!g) l2)) ∧ Below w.heap.size w w' := by
  obtain ⟨A1, c1, rfl, a1, b1, hs1⟩ := h1.open_
  obtain ⟨A2, c2, rfl, a2, b2, hs2⟩ := h2.open_
  have hbx := boxes3 w (.bool g) (.slice A1 l1.length c1) (.bool (!g)) (.slice A2 l2.length c2)
  generalize hW : ((w.alloc (.cells #[.bool g, .slice A1 l1.length c1] 25)).alloc (.cells #[.bool (!g), .slice A2 l2.length c2] 25)).alloc (.cells #[.bool false, .slice none 0 0] 25) = W at hbx
  obtain ⟨hbw, ht1, ht2, ht3⟩ := hbx
  have HC := Lib.hid (ncmp_calls _ _ l1 l2 W (hs1.below hbw) (hs2.below hbw))
  obtain ⟨c, hc⟩ : ∃ c, cmpN (val l1) (val l2) = c := ⟨_, rfl⟩
  have hc0 : 0 ≤ c := by
    rw [← hc]
    unfold cmpN
    rw [if_neg (by omega)]
    split <;> omega
  rw [hc] at HC
  clear hc
  have HSB := Lib.hid (fun w' (h : Below W.heap.size W w') => nsub_calls _ _ l1 l2 w' ((hs1.below hbw).below h) ((hs2.below hbw).below h) k1 hx)
  have HT1 := Lib.hid ht1
  have HT2 := Lib.hid ht2
  have HT3 := Lib.hid ht3
  have x1 := ht1.c0
  have x2 := ht2.c0
  have x3 := ht1.c1
  have x4 := ht2.c1
  have HBW := Lib.hid hbw
  have HIZ := Lib.hid (iz_add_ge g l1 l2 hx)
  have HW := Lib.hid hW
  clear h1 h2 hs1 hs2 a1 a2 b1 b2 k1 k2 hbw ht1 ht2 ht3 hW hx
  generalize iz g l1 + iz (!g) l2 = z at *
  generalize val l1 - val l2 = m at *
  have HNG : Hid ((g == !g) = false) := Lib.hid (by cases g <;> rfl)
  go_enter Try.func28, Try.ntmps28
  go_wp2_with fail
  rw [HW.out]
  refine (HC.out).mono ?_
  rintro e w1 ⟨rfl, hb1⟩
  have HX1 := Lib.hid (HT1.out.keep hb1)
  have HX2 := Lib.hid (HT2.out.keep hb1)
  have HX3 := Lib.hid (HT3.out.keep hb1)
  have HB1 := Lib.hid (HBW.out.trans (hb1.mono HBW.out.size))
  have HS1 := Lib.hid (HSB.out w1 hb1)
  have y1 := HX1.out.c0
  have y2 := HX2.out.c0
  have y3 := HX1.out.c1
  have y4 := HX2.out.c1
  clear hb1 HC HSB x1 x2 x3 x4 HT1 HT2 HT3
  go_wp2_with fail
  refine (HS1.out).mono ?_
  rintro e w2 ⟨⟨u1, rfl, hv1⟩, hb2⟩
  obtain ⟨A3, c3, rfl, q0, q1, hv2⟩ := hv1.open_
  have HU := Lib.hid hv2
  have HQ := Lib.hid (Nat.le_trans q0 q1)
  have HY1 := Lib.hid (HX1.out.keep hb2)
  have HY2 := Lib.hid (HX2.out.keep hb2)
  have HY3 := Lib.hid (HX3.out.keep hb2)
  have HB2 := Lib.hid (HB1.out.trans (hb2.mono HB1.out.size))
  have z1 := HY1.out.c0
  have z2 := HY2.out.c0
  clear hb2 hv1 hv2 q0 q1 HS1 y1 y2 y3 y4 HX1 HX2 HX3
  go_wp2_with fail
  refine (signed_raw g A3 (dg m).length c3 w2 HQ.out).mono ?_
  rintro e w3 ⟨rfl, hb3⟩
  have HZ3 := Lib.hid (HY3.out.keep hb3)
  have HB3 := Lib.hid (HB2.out.trans (hb3.mono HB2.out.size))
  have HU3 := Lib.hid (HU.out.below hb3)
  have s0 := HZ3.out.c0
  have s1 := HZ3.out.c1
  have s2 := HZ3.out.fz 0
  have s3 := HZ3.out.fz 1
  clear hb3 z1 z2 HY1 HY2 HY3
  go_wp2_with fail
  refine bodyPost_ret (v := .agg #[.bool (g && decide (0 < (dg m).length)), .slice A3 (dg m).length c3]) (by simp [results, Try.results28, go_sem, s0, s1]) rfl ⟨⟨_, rfl, ?_⟩, Below.two HB3.out (by omega) _ _⟩
  rw [← HIZ.out]
  exact (in_signed g HU3.out).apart HZ3.out (two_other _ _ _ _) (two_size _ _ _ _)

set_option maxHeartbeats 2000000 in
set_option maxRecDepth 100000 in
theorem iadd_lt (v1 v2 : Value) (g : Bool) (l1 l2 : List Nat) (w : World) (h1 : Iv w v1 g l1) (h2 : Iv w v2 (!g) l2) (k1 : l1.length ≤ 1000000) (k2 : l2.length ≤ 1000000) (hlt : val l1 < val l2) :
    Calls Try.prog 28 #[v1, v2] w fun e w' => (∃ v, e = .returned v ∧ In w' v (iz g l1 + iz (!g) l2)) ∧ Below w.heap.size w w' := by
  obtain ⟨A1, c1, rfl, a1, b1, hs1⟩ := h1.open_
  obtain ⟨A2, c2, rfl, a2, b2, hs2⟩ := h2.open_
  have hbx := boxes3 w (.bool g) (.slice A1 l1.length c1) (.bool (!g)) (.slice A2 l2.length c2)
  generalize hW : ((w.alloc (.cells #[.bool g, .slice A1 l1.length c1] 25)).alloc (.cells #[.bool (!g), .slice A2 l2.length c2] 25)).alloc (.cells #[.bool false, .slice none 0 0] 25) = W at hbx
  obtain ⟨hbw, ht1, ht2, ht3⟩ := hbx
  have HC := Lib.hid (ncmp_calls _ _ l1 l2 W (hs1.below hbw) (hs2.below hbw))
  rw [cmpN_lt hlt] at HC
  have hx : val l1 ≤ val l2 := Nat.le_of_lt hlt
  clear hlt
  have HSB := Lib.hid (fun w' (h : Below W.heap.size W w') => nsub_calls _ _ l2 l1 w' ((hs2.below hbw).below h) ((hs1.below hbw).below h) k2 hx)
  have HT1 := Lib.hid ht1
  have HT2 := Lib.hid ht2
  have HT3 := Lib.hid ht3
  have x1 := ht1.c0
  have x2 := ht2.c0
  have x3 := ht1.c1
  have x4 := ht2.c1
  have HBW := Lib.hid hbw
  have HIZ := Lib.hid (iz_add_lt g l1 l2 hx)
  have HW := Lib.hid hW
  clear h1 h2 hs1 hs2 a1 a2 b1 b2 k1 k2 hbw ht1 ht2 ht3 hW hx
  generalize iz g l1 + iz (!g) l2 = z at *
  generalize val l2 - val l1 = m at *
  have HNG : Hid ((g == !g) = false) := Lib.hid (by cases g <;> rfl)
  go_enter Try.func28, Try.ntmps28
  go_wp2_with fail
  rw [HW.out]
  refine (HC.out).mono ?_
  rintro e w1 ⟨rfl, hb1⟩
  have HX1 := Lib.hid (HT1.out.keep hb1)
  have HX2 := Lib.hid (HT2.out.keep hb1)
  have HX3 := Lib.hid (HT3.out.keep hb1)
  have HB1 := Lib.hid (HBW.out.trans (hb1.mono HBW.out.size))
  have HS1 := Lib.hid (HSB.out w1 hb1)
  have y1 := HX1.out.c0
  have y2 := HX2.out.c0
  have y3 := HX1.out.c1
  have y4 := HX2.out.c1
  clear hb1 HC HSB x1 x2 x3 x4 HT1 HT2 HT3
  go_wp2_with fail
  refine (HS1.out).mono ?_
  rintro e w2 ⟨⟨u1, rfl, hv1⟩, hb2⟩
  obtain ⟨A3, c3, rfl, q0, q1, hv2⟩ := hv1.open_
  have HU := Lib.hid hv2
  have HQ := Lib.hid (Nat.le_trans q0 q1)
  have HY1 := Lib.hid (HX1.out.keep hb2)
  have HY2 := Lib.hid (HX2.out.keep hb2)
  have HY3 := Lib.hid (HX3.out.keep hb2)
  have HB2 := Lib.hid (HB1.out.trans (hb2.mono HB1.out.size))
  have z1 := HY1.out.c0
  have z2 := HY2.out.c0
  clear hb2 hv1 hv2 q0 q1 HS1 y1 y2 y3 y4 HX1 HX2 HX3
  go_wp2_with fail
  refine (signed_raw (!g) A3 (dg m).length c3 w2 HQ.out).mono ?_
  rintro e w3 ⟨rfl, hb3⟩
  have HZ3 := Lib.hid (HY3.out.keep hb3)
  have HB3 := Lib.hid (HB2.out.trans (hb3.mono HB2.out.size))
  have HU3 := Lib.hid (HU.out.below hb3)
  have s0 := HZ3.out.c0
  have s1 := HZ3.out.c1
  have s2 := HZ3.out.fz 0
  have s3 := HZ3.out.fz 1
  clear hb3 z1 z2 HY1 HY2 HY3
  go_wp2_with fail
  refine bodyPost_ret (v := .agg #[.bool ((!g) && decide (0 < (dg m).length)), .slice A3 (dg m).length c3]) (by simp [results, Try.results28, go_sem, s0, s1]) rfl ⟨⟨_, rfl, ?_⟩, Below.two HB3.out (by omega) _ _⟩
  rw [← HIZ.out]
  exact (in_signed (!g) HU3.out).apart HZ3.out (two_other _ _ _ _) (two_size _ _ _ _)

theorem iadd_calls (v1 v2 : Value) (g1 g2 : Bool) (l1 l2 : List Nat) (w : World) (h1 : Iv w v1 g1 l1) (h2 : Iv w v2 g2 l2) (k1 : l1.length ≤ 1000000) (k2 : l2.length ≤ 1000000) :
    Calls Try.prog 28 #[v1, v2] w fun e w' => (∃ v, e = .returned v ∧ In w' v (iz g1 l1 + iz g2 l2)) ∧ Below w.heap.size w w' := by
  by_cases hg : g2 = g1
  · subst hg
    exact iadd_same v1 v2 g2 l1 l2 w h1 h2 k1 k2
  · obtain rfl : g2 = !g1 := by cases g1 <;> cases g2 <;> first | rfl | exact absurd rfl hg
    rcases Nat.lt_or_ge (val l1) (val l2) with h | h
    · exact iadd_lt v1 v2 g1 l1 l2 w h1 h2 k1 k2 h
    · exact iadd_ge v1 v2 g1 l1 l2 w h1 h2 k1 k2 h

set_option maxHeartbeats 2000000 in
set_option maxRecDepth 100000 in
theorem isub_calls (v1 v2 : Value) (g1 g2 : Bool) (l1 l2 : List Nat) (w : World) (h1 : Iv w v1 g1 l1) (h2 : Iv w v2 g2 l2) (k1 : l1.length ≤ 1000000) (k2 : l2.length ≤ 1000000) :
    Calls Try.prog 37 #[v1, v2] w fun e w' => (∃ v, e = .returned v ∧ In w' v (iz g1 l1 - iz g2 l2)) ∧ Below w.heap.size w w' := by
  obtain ⟨A1, c1, rfl, a1, b1, hs1⟩ := h1.open_
  obtain ⟨A2, c2, rfl, a2, b2, hs2⟩ := h2.open_
  have hbx := boxes3 w (.bool g1) (.slice A1 l1.length c1) (.bool g2) (.slice A2 l2.length c2)
  generalize hW : ((w.alloc (.cells #[.bool g1, .slice A1 l1.length c1] 25)).alloc (.cells #[.bool g2, .slice A2 l2.length c2] 25)).alloc (.cells #[.bool false, .slice none 0 0] 25) = W at hbx
  obtain ⟨hbw, ht1, ht2, ht3⟩ := hbx
  have HM := Lib.hid (iadd_calls _ _ g1 (!g2) l1 l2 W (Iv.of (hs1.below hbw)) (Iv.of (hs2.below hbw)) k1 k2)
  rw [iz_not, ← Int.sub_eq_add_neg] at HM
  have HT3 := Lib.hid ht3
  have x1 := ht1.c0
  have x2 := ht1.c1
  have x3 := ht2.c0
  have x4 := ht2.c1
  have HBW := Lib.hid hbw
  have HW := Lib.hid hW
  clear h1 h2 hs1 hs2 a1 a2 b1 b2 k1 k2 hbw ht1 ht2 ht3 hW
  generalize iz g1 l1 - iz g2 l2 = z at *
  go_enter Try.func37, Try.ntmps37
  go_wp2_with fail
  rw [HW.out]
  refine (HM.out).mono ?_
  rintro e w1 ⟨⟨u1, rfl, hv1⟩, hb1⟩
  obtain ⟨A3, n3, c3, rfl, hv2⟩ := hv1.open_
  have HV := Lib.hid hv2
  have HX3 := Lib.hid (HT3.out.keep hb1)
  have HB1 := Lib.hid (HBW.out.trans (hb1.mono HBW.out.size))
  have s0 := HX3.out.c0
  have s1 := HX3.out.c1
  have s2 := HX3.out.fz 0
  have s3 := HX3.out.fz 1
  obtain ⟨d, hd⟩ : ∃ d, decide (z < 0) = d := ⟨_, rfl⟩
  rw [hd] at HV ⊢
  clear hb1 hv1 hv2 hd x1 x2 x3 x4
  go_wp2_with fail
  exact bodyPost_ret (v := .agg #[.bool d, .slice A3 n3 c3]) (by simp [results, Try.results37, go_sem, s0, s1]) rfl ⟨⟨_, rfl, HV.out.apart HX3.out (two_other _ _ _ _) (two_size _ _ _ _)⟩, Below.two HB1.out (by omega) _ _⟩

end Go.Proofs.Ytgmooidagkbheaa
