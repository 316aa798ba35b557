/-
  Package integer: Mul.
-/
import Derived.Test.YtgmooidagkbheaaIn1
namespace Go.Proofs.Ytgmooidagkbheaa
open Go.RowKit Go.Proofs.YtgmooidagkbheaaW.PrintWords
set_option linter.unusedVariables false

theorem two_cell (W : World) (g h j : Nat) (u u' : Value) (hne : h ≠ g) : ((W.setCell ⟨g, 0, none⟩ u).setCell ⟨g, 1, none⟩ u').cell? ⟨h, j, none⟩ = W.cell? ⟨h, j, none⟩ := by
  simp only [World.cell?]
  rw [two_other _ _ _ _ h hne]
theorem boxed3 (w : World) (o o' o'' : Obj) : Below w.heap.size w (((w.alloc o).alloc o').alloc o'') := (boxed2 w o o').alloc (by simp; omega) _
theorem Two.alloc {w : World} {g : Nat} {a b : Value} (h : Two w g a b) (o : Obj) : Two (w.alloc o) g a b := h.keep ((Below.refl _ _).alloc (Nat.le_refl _) _)
theorem Two.drew {w : World} {g : Nat} {a b : Value} (h : Two w g a b) : Two w.drew g a b := ⟨h.out⟩
theorem Nv.drew {w : World} {v : Value} {l : List Nat} (h : Nv w v l) : Nv w.drew v l := h.drewN 1
theorem iz_mul (g g' : Bool) (l l' : List Nat) : (if (!(g == g')) = true then -((val l * val l' : Nat) : Int) else ((val l * val l' : Nat) : Int)) = iz g l * iz g' l' := by
  unfold iz
  cases g <;> cases g' <;> simp [Int.neg_mul, Int.mul_neg]
/-- What signed makes of canonical digits. -/
theorem in_signed {w : World} {A : Option Addr} {c m : Nat} (g : Bool) (h : Nv w (.slice A (dg m).length c) (dg m)) : In w (.agg #[.bool (g && decide (0 < (dg m).length)), .slice A (dg m).length c]) (if g = true then -(m : Int) else m) := by
  have e := iz_neg g (dg m)
  have e2 := iz_natAbs g (dg m)
  rw [val_dg] at e e2
  have e3 : iz g (dg m) = if g = true then -(m : Int) else m := by unfold iz; rw [val_dg]
  rw [e3] at e e2
  refine ⟨?_⟩
  rw [e, e2]
  exact Iv.of h

set_option maxHeartbeats 2000000 in
set_option maxRecDepth 100000 in
theorem imul_calls (v1 v2 : Value) (g1 g2 : Bool) (l1 l2 : List Nat) (w : World) (h1 : Iv w v1 g1 l1) (h2 : Iv w v2 g2 l2) (k1 : l1.length ≤ 1000000) (k2 : l2.length ≤ 1000000) (k : (dg (val l1)).length < 48 ∨ (dg (val l2)).length < 48) :
    Calls Try.prog 29 #[v1, v2] w fun e w' => (∃ v, e = .returned v ∧ In w' v (iz g1 l1 * iz g2 l2)) ∧ Below w.heap.size w w' := by
  obtain ⟨A1, c1, rfl, a1, b1, hs1⟩ := h1.open_
  obtain ⟨A2, c2, rfl, a2, b2, hs2⟩ := h2.open_
  obtain ⟨W, hW⟩ : ∃ W, (((w.alloc (.cells #[.bool g1, .slice A1 l1.length c1] 25)).alloc (.cells #[.bool g2, .slice A2 l2.length c2] 25)).alloc (.cells #[.bool false, .slice none 0 0] 25)) = W := ⟨_, rfl⟩
  have hbw : Below w.heap.size w W := by rw [← hW]; exact boxed3 _ _ _ _
  have ht1 : Two W w.heap.size (.bool g1) (.slice A1 l1.length c1) := by rw [← hW]; exact ((Two.made w _ _).alloc _).alloc _
  have ht2 : Two W (w.heap.size + 1) (.bool g2) (.slice A2 l2.length c2) := by rw [← hW]; exact (Two.made2 w _ _ _).alloc _
  have ht3 : Two W (w.heap.size + 2) (.bool false) (.slice none 0 0) := by
    rw [← hW]
    have := Two.made2 (w.alloc (.cells #[.bool g1, .slice A1 l1.length c1] 25)) (.cells #[.bool g2, .slice A2 l2.length c2] 25) (.bool false) (.slice none 0 0)
    simpa using this
  have HM := Lib.hid (nmul_calls _ _ l1 l2 W.drew (hs1.below hbw).drew (hs2.below hbw).drew k1 k2 k)
  have HT1 := Lib.hid ht1.drew
  have HT2 := Lib.hid ht2.drew
  have HT3 := Lib.hid ht3.drew
  have p1 := ht1.drew.c0
  have p2 := ht1.drew.c1
  have p3 := ht2.drew.c0
  have p4 := ht2.drew.c1
  have p5 := ht3.drew.c0
  have p6 := ht3.drew.c1
  have p7 := ht3.drew.fz 0
  have p8 := ht3.drew.fz 1
  have HBW : Hid (Below w.heap.size w W.drew) := Lib.hid (below_drewN hbw 1)
  have HIZ := Lib.hid (iz_mul g1 g2 l1 l2)
  clear h1 h2 hs1 hs2 a1 a2 b1 b2 k1 k2 k hbw ht1 ht2 ht3
  generalize iz g1 l1 * iz g2 l2 = z at *
  generalize val l1 * val l2 = m at *
  have HW := Lib.hid hW
  clear hW
  obtain ⟨gg, hgg⟩ : ∃ gg, (!(g1 == g2)) = gg := ⟨_, rfl⟩
  rw [hgg] at HIZ
  go_enter Try.func29, Try.ntmps29
  go_wp2_with fail
  rw [HW.out]
  go_region_held3 (fun w' => w'.cell? ⟨w.heap.size, 0, none⟩ = some (.bool g1) ∧ w'.cell? ⟨w.heap.size, 1, none⟩ = some (.slice A1 l1.length c1) ∧ w'.cell? ⟨w.heap.size + 1, 0, none⟩ = some (.bool g2) ∧ w'.cell? ⟨w.heap.size + 1, 1, none⟩ = some (.slice A2 l2.length c2))
    ((first | (refine ⟨?_, ?_, ?_, ?_⟩ <;> assumption) | (refine ⟨?_, ?_, ?_, ?_⟩ <;> (rw [two_cell _ _ _ _ _ _ (by omega)]; assumption))))
    (first
     | (go_at_call 59; refine (HM.out).mono ?_; rintro e w1 ⟨⟨u1, rfl, hv1⟩, hb1⟩; obtain ⟨A3, c3, rfl, q0, q1, hv2⟩ := hv1.open_
        have HU := Lib.hid hv2
        have HQ := Lib.hid (Nat.le_trans q0 q1)
        have HB1 := Lib.hid (HBW.out.trans (hb1.mono HBW.out.size))
        have HX1 := Lib.hid (HT1.out.keep hb1)
        have HX2 := Lib.hid (HT2.out.keep hb1)
        have HX3 := Lib.hid (HT3.out.keep hb1)
        have r1 := HX1.out.c0
        have r2 := HX1.out.c1
        have r3 := HX2.out.c0
        have r4 := HX2.out.c1
        have r5 := HX3.out.c0
        have r6 := HX3.out.c1
        have r7 := HX3.out.fz 0
        have r8 := HX3.out.fz 1)
     | (go_at_call 56; refine (signed_raw _ _ _ _ _ HQ.out).mono ?_; rintro e w2 ⟨rfl, hb2⟩
        have HU2 := Lib.hid (HU.out.below hb2)
        have HB2 := Lib.hid (HB1.out.trans (hb2.mono HB1.out.size))
        have HY1 := Lib.hid (HX1.out.keep hb2)
        have HY2 := Lib.hid (HX2.out.keep hb2)
        have HY3 := Lib.hid (HX3.out.keep hb2)
        have s1 := HY1.out.c0
        have s2 := HY1.out.c1
        have s3 := HY2.out.c0
        have s4 := HY2.out.c1
        have s5 := HY3.out.c0
        have s6 := HY3.out.c1
        have s7 := HY3.out.fz 0
        have s8 := HY3.out.fz 1))
  all_goals
    rename_i hH
    clear hH
    have HW3 : Hid (Two w2 (w.heap.size + 1 + 1) (.bool false) (.slice none 0 0)) := HY3
    clear s1 s2 s3 s4 r1 r2 r3 r4 r5 r6 r7 r8 p1 p2 p3 p4 p5 p6 p7 p8
    go_wp2_with fail
    refine bodyPost_ret (v := .agg #[.bool (gg && decide (0 < (dg m).length)), .slice A3 (dg m).length c3]) (by simp [results, Try.results29, go_sem, s5, s6]) rfl ⟨⟨_, rfl, ?_⟩, Below.two HB2.out (by omega) _ _⟩
    rw [← HIZ.out]
    exact (in_signed gg HU2.out).apart HW3.out (two_other _ _ _ _) (two_size _ _ _ _)

end Go.Proofs.Ytgmooidagkbheaa
