/-
  Package integer: Cmp, Same, IsOdd.
-/
import Derived.Test.YtgmooidagkbheaaIn2
namespace Go.Proofs.Ytgmooidagkbheaa
open Go.RowKit Go.Proofs.YtgmooidagkbheaaW.PrintWords
set_option linter.unusedVariables false

/-- -1, 0 or 1. -/
def cmpZ (a b : Int) : Int := if a < b then -1 else if b < a then 1 else 0
theorem cmpZ_lt {g g' : Bool} {l l' : List Nat} (h : Int.sign (iz g l) < Int.sign (iz g' l')) : cmpZ (iz g l) (iz g' l') = -1 := by
  unfold cmpZ
  rw [if_pos]
  generalize iz g l = x at *
  generalize iz g' l' = y at *
  rcases Int.lt_trichotomy x 0 with h1 | h1 | h1 <;> rcases Int.lt_trichotomy y 0 with h2 | h2 | h2 <;> (try rw [Int.sign_eq_neg_one_of_neg h1] at h) <;> (try rw [Int.sign_eq_neg_one_of_neg h2] at h) <;> (try rw [Int.sign_eq_one_of_pos h1] at h) <;> (try rw [Int.sign_eq_one_of_pos h2] at h) <;> (try rw [h1] at h ⊢) <;> (try rw [h2] at h ⊢) <;> simp at h <;> omega
theorem cmpZ_gt {g g' : Bool} {l l' : List Nat} (h : Int.sign (iz g' l') < Int.sign (iz g l)) : cmpZ (iz g l) (iz g' l') = 1 := by
  have h' := cmpZ_lt h
  unfold cmpZ at h' ⊢
  split at h'
  · rename_i h2
    rw [if_neg (by omega), if_pos h2]
  · split at h' <;> omega
theorem cmpZ_neg {g g' : Bool} {l l' : List Nat} (h : Int.sign (iz g l) = Int.sign (iz g' l')) (h0 : Int.sign (iz g l) < 0) : cmpZ (iz g l) (iz g' l') = cmpN (val l') (val l) := by
  have e1 := Int.sign_neg_iff.1 h0
  rw [h] at h0
  have e2 := Int.sign_neg_iff.1 h0
  clear h h0
  unfold iz cmpZ cmpN at *
  cases g <;> cases g' <;> simp at * <;> (try omega)
  all_goals (split <;> split <;> (try split) <;> (try split) <;> omega)
theorem cmpZ_pos {g g' : Bool} {l l' : List Nat} (h : Int.sign (iz g l) = Int.sign (iz g' l')) (h0 : ¬ Int.sign (iz g l) < 0) : cmpZ (iz g l) (iz g' l') = cmpN (val l) (val l') := by
  have e1 : ¬ iz g l < 0 := fun h' => h0 (Int.sign_neg_iff.2 h')
  rw [h] at h0
  have e2 : ¬ iz g' l' < 0 := fun h' => h0 (Int.sign_neg_iff.2 h')
  have f1 := iz_natAbs g l
  have f2 := iz_natAbs g' l'
  clear h h0
  generalize iz g l = x at *
  generalize iz g' l' = y at *
  unfold cmpZ cmpN
  split <;> split <;> (try split) <;> (try split) <;> omega
theorem cmpZ_zero (a b : Int) : (cmpZ a b == 0) = (a == b) := by
  rw [Bool.eq_iff_iff]
  simp only [beq_iff_eq]
  unfold cmpZ
  split
  · constructor
    · intro h; omega
    · intro h; omega
  · split
    · constructor
      · intro h; omega
      · intro h; omega
    · constructor
      · intro h; omega
      · intro h; rfl

set_option maxHeartbeats 2000000 in
set_option maxRecDepth 100000 in
theorem icmp_calls (v1 v2 : Value) (g1 g2 : Bool) (l1 l2 : List Nat) (w : World) (h1 : Iv w v1 g1 l1) (h2 : Iv w v2 g2 l2) :
    Calls Try.prog 25 #[v1, v2] w fun e w' => e = .returned (.int .i64 (cmpZ (iz g1 l1) (iz g2 l2))) ∧ Below w.heap.size w w' := by
  obtain ⟨A1, c1, rfl, a1, b1, hs1⟩ := h1.open_
  obtain ⟨A2, c2, rfl, a2, b2, hs2⟩ := h2.open_
  have hbx := boxes2 w (.bool g1) (.slice A1 l1.length c1) (.bool g2) (.slice A2 l2.length c2)
  generalize hW : (w.alloc (.cells #[.bool g1, .slice A1 l1.length c1] 25)).alloc (.cells #[.bool g2, .slice A2 l2.length c2] 25) = W at hbx
  obtain ⟨hbw, ht1, ht2⟩ := hbx
  have HS1 := Lib.hid (sign_calls _ g1 l1 W.drew (Iv.of (hs1.below hbw).drew))
  have HS2 := Lib.hid (fun w' (h : Below W.drew.heap.size W.drew w') => sign_calls _ g2 l2 w' (Iv.of ((hs2.below hbw).drew.below h)))
  have HC1 := Lib.hid (fun w' (h : Below W.drew.heap.size W.drew w') => ncmp_calls _ _ l2 l1 w' ((hs2.below hbw).drew.below h) ((hs1.below hbw).drew.below h))
  have HC2 := Lib.hid (fun w' (h : Below W.drew.heap.size W.drew w') => ncmp_calls _ _ l1 l2 w' ((hs1.below hbw).drew.below h) ((hs2.below hbw).drew.below h))
  have HT1 := Lib.hid ht1.drew
  have HT2 := Lib.hid ht2.drew
  have p1 := HT1.out.c0
  have p2 := HT1.out.c1
  have p3 := HT2.out.c0
  have p4 := HT2.out.c1
  have HBW : Hid (Below w.heap.size w W.drew) := Lib.hid (below_drewN hbw 1)
  have HL := Lib.hid (@cmpZ_lt g1 g2 l1 l2)
  have HG := Lib.hid (@cmpZ_gt g1 g2 l1 l2)
  have HN := Lib.hid (@cmpZ_neg g1 g2 l1 l2)
  have HP := Lib.hid (@cmpZ_pos g1 g2 l1 l2)
  have HW := Lib.hid hW
  clear h1 h2 hs1 hs2 a1 a2 b1 b2 hbw ht1 ht2 hW
  generalize cmpZ (iz g1 l1) (iz g2 l2) = R at *
  generalize Int.sign (iz g1 l1) = s at *
  generalize Int.sign (iz g2 l2) = t at *
  go_enter Try.func25, Try.ntmps25
  go_wp2_with fail
  rw [HW.out]
  go_region_held3 (fun w' => w'.cell? ⟨w.heap.size, 0, none⟩ = some (.bool g1) ∧ w'.cell? ⟨w.heap.size, 1, none⟩ = some (.slice A1 l1.length c1) ∧ w'.cell? ⟨w.heap.size + 1, 0, none⟩ = some (.bool g2) ∧ w'.cell? ⟨w.heap.size + 1, 1, none⟩ = some (.slice A2 l2.length c2))
    ((refine ⟨?_, ?_, ?_, ?_⟩ <;> assumption))
    (first
     | (go_at_call 24; with_reducible refine (HS1.out).mono ?_; rintro e w1 ⟨rfl, hb1⟩
        have HB1 := Lib.hid hb1
        have HX1 := Lib.hid (HT1.out.keep hb1)
        have HX2 := Lib.hid (HT2.out.keep hb1)
        have r1 := HX1.out.c0
        have r2 := HX1.out.c1
        have r3 := HX2.out.c0
        have r4 := HX2.out.c1)
     | (go_at_call 24; with_reducible refine (HS2.out _ HB1.out).mono ?_; rintro e w2 ⟨rfl, hb2⟩
        have HB2 := Lib.hid (HB1.out.trans (hb2.mono HB1.out.size))
        have HY1 := Lib.hid (HX1.out.keep hb2)
        have HY2 := Lib.hid (HX2.out.keep hb2)
        have s1 := HY1.out.c0
        have s2 := HY1.out.c1
        have s3 := HY2.out.c0
        have s4 := HY2.out.c1))
  all_goals
    rename_i hH
    clear hH r1 r2 r3 r4 p1 p2 p3 p4
    rcases Int.lt_trichotomy s t with hlt | heq | hgt
    · have HR := Lib.hid (HL.out hlt)
      go_wp2_with fail
      go_ret
      exact ⟨by rw [HR.out]; rfl, HBW.out.trans (HB2.out.mono HBW.out.size)⟩
    · subst heq
      have e0 : ¬ s < s := by omega
      by_cases h0 : s < 0
      · have HR := Lib.hid (HN.out rfl h0)
        go_wp2_with fail
        refine (HC1.out _ HB2.out).mono ?_
        rintro e w3 ⟨rfl, hb3⟩
        have HB3 := Lib.hid (HB2.out.trans (hb3.mono HB2.out.size))
        clear hb3
        go_wp2_with fail
        go_ret
        exact ⟨by rw [HR.out]; rfl, HBW.out.trans (HB3.out.mono HBW.out.size)⟩
      · have HR := Lib.hid (HP.out rfl (by omega))
        go_wp2_with fail
        refine (HC2.out _ HB2.out).mono ?_
        rintro e w3 ⟨rfl, hb3⟩
        have HB3 := Lib.hid (HB2.out.trans (hb3.mono HB2.out.size))
        clear hb3
        go_wp2_with fail
        go_ret
        exact ⟨by rw [HR.out]; rfl, HBW.out.trans (HB3.out.mono HBW.out.size)⟩
    · have HR := Lib.hid (HG.out hgt)
      have e0 : ¬ s < t := by omega
      go_wp2_with fail
      go_ret
      exact ⟨by rw [HR.out]; rfl, HBW.out.trans (HB2.out.mono HBW.out.size)⟩

set_option maxHeartbeats 2000000 in
set_option maxRecDepth 100000 in
theorem isame_calls (v1 v2 : Value) (g1 g2 : Bool) (l1 l2 : List Nat) (w : World) (h1 : Iv w v1 g1 l1) (h2 : Iv w v2 g2 l2) :
    Calls Try.prog 27 #[v1, v2] w fun e w' => e = .returned (.bool (iz g1 l1 == iz g2 l2)) ∧ Below w.heap.size w w' := by
  obtain ⟨A1, c1, rfl, a1, b1, hs1⟩ := h1.open_
  obtain ⟨A2, c2, rfl, a2, b2, hs2⟩ := h2.open_
  have hbx := boxes2 w (.bool g1) (.slice A1 l1.length c1) (.bool g2) (.slice A2 l2.length c2)
  generalize hW : (w.alloc (.cells #[.bool g1, .slice A1 l1.length c1] 25)).alloc (.cells #[.bool g2, .slice A2 l2.length c2] 25) = W at hbx
  obtain ⟨hbw, ht1, ht2⟩ := hbx
  have HC := Lib.hid (icmp_calls _ _ g1 g2 l1 l2 W (Iv.of (hs1.below hbw)) (Iv.of (hs2.below hbw)))
  have p1 := ht1.c0
  have p2 := ht1.c1
  have p3 := ht2.c0
  have p4 := ht2.c1
  have HBW := Lib.hid hbw
  have HE := Lib.hid (cmpZ_zero (iz g1 l1) (iz g2 l2))
  have HW := Lib.hid hW
  clear h1 h2 hs1 hs2 a1 a2 b1 b2 hbw ht1 ht2 hW
  generalize (iz g1 l1 == iz g2 l2) = b at *
  generalize cmpZ (iz g1 l1) (iz g2 l2) = R at *
  go_enter Try.func27, Try.ntmps27
  go_wp2_with fail
  rw [HW.out]
  refine (HC.out).mono ?_
  rintro e w1 ⟨rfl, hb1⟩
  have HB1 := Lib.hid (HBW.out.trans (hb1.mono HBW.out.size))
  clear hb1 p1 p2 p3 p4
  go_wp2_with fail
  go_ret
  exact ⟨by rw [← HE.out]; rfl, HB1.out⟩

theorem Two.store {w : World} {g : Nat} {x y : Value} (h : Two w g x y) (a b : Value) : Two ((w.setCell ⟨g, 0, none⟩ a).setCell ⟨g, 1, none⟩ b) g a b := by
  refine ⟨?_⟩
  have h1 := heap_setCell_same w g 0 _ _ a h.out
  have h2 := heap_setCell_same _ g 1 _ _ b h1
  rw [h2]
  rfl
theorem Two.other2 {w : World} {g g' : Nat} {x y x' y' : Value} (h : Two w g x y) (h' : Two w g' x' y') (a b : Value) (hne : g ≠ g') : Two ((w.setCell ⟨g', 0, none⟩ a).setCell ⟨g', 1, none⟩ b) g x y :=
  ⟨(two_other _ _ _ _ g hne).trans h.out⟩
theorem Two.grow {w0 w : World} {B g : Nat} {x y : Value} (ht : Two w g x y) (h : Below B w0 w) (hg : B ≤ g) (a b : Value) : Below B w0 ((w.setCell ⟨g, 0, none⟩ a).setCell ⟨g, 1, none⟩ b) := Below.two h hg a b
theorem In.stored {w : World} {v : Value} {z : Int} {B : Nat} {x : Bool} {A : Option Addr} {n c : Nat} (h : In w v z) (ht : Two w B (.bool x) (.slice A n c)) (u u' : Value) : In ((w.setCell ⟨B, 0, none⟩ u).setCell ⟨B, 1, none⟩ u') v z :=
  h.apart ht (two_other _ _ _ _) (two_size _ _ _ _)
theorem Iv.stored {w : World} {v : Value} {g : Bool} {l : List Nat} {B : Nat} {x : Bool} {A : Option Addr} {n c : Nat} (h : Iv w v g l) (ht : Two w B (.bool x) (.slice A n c)) (u u' : Value) : Iv ((w.setCell ⟨B, 0, none⟩ u).setCell ⟨B, 1, none⟩ u') v g l :=
  h.apart ht (two_other _ _ _ _) (two_size _ _ _ _)
theorem Nv.stored {w : World} {v : Value} {l : List Nat} {B : Nat} {x : Bool} {A : Option Addr} {n c : Nat} (h : Nv w v l) (ht : Two w B (.bool x) (.slice A n c)) (u u' : Value) : Nv ((w.setCell ⟨B, 0, none⟩ u).setCell ⟨B, 1, none⟩ u') v l :=
  h.apart ht (two_other _ _ _ _) (two_size _ _ _ _)
theorem Iv.drew {w : World} {v : Value} {g : Bool} {l : List Nat} (h : Iv w v g l) : Iv w.drew v g l := h.below (below_drewN (Below.refl _ _) 1)
theorem In.drew {w : World} {v : Value} {z : Int} (h : In w v z) : In w.drew v z := h.below (below_drewN (Below.refl _ _) 1)
theorem boxes4 (w : World) (a b c d : Value) : Below w.heap.size w ((((w.alloc (.cells #[a, b] 25)).alloc (.cells #[c, d] 25)).alloc (.cells #[.bool false, .slice none 0 0] 25)).alloc (.cells #[.bool false, .slice none 0 0] 25)) ∧
    Two ((((w.alloc (.cells #[a, b] 25)).alloc (.cells #[c, d] 25)).alloc (.cells #[.bool false, .slice none 0 0] 25)).alloc (.cells #[.bool false, .slice none 0 0] 25)) w.heap.size a b ∧
    Two ((((w.alloc (.cells #[a, b] 25)).alloc (.cells #[c, d] 25)).alloc (.cells #[.bool false, .slice none 0 0] 25)).alloc (.cells #[.bool false, .slice none 0 0] 25)) (w.heap.size + 1) c d ∧
    Two ((((w.alloc (.cells #[a, b] 25)).alloc (.cells #[c, d] 25)).alloc (.cells #[.bool false, .slice none 0 0] 25)).alloc (.cells #[.bool false, .slice none 0 0] 25)) (w.heap.size + 1 + 1) (.bool false) (.slice none 0 0) ∧
    Two ((((w.alloc (.cells #[a, b] 25)).alloc (.cells #[c, d] 25)).alloc (.cells #[.bool false, .slice none 0 0] 25)).alloc (.cells #[.bool false, .slice none 0 0] 25)) (w.heap.size + 1 + 1 + 1) (.bool false) (.slice none 0 0) := by
  obtain ⟨h1, h2, h3, h4⟩ := boxes3 w a b c d
  refine ⟨h1.alloc (by simp; omega) _, h2.alloc _, h3.alloc _, h4.alloc _, ?_⟩
  have := Two.made2 ((w.alloc (.cells #[a, b] 25)).alloc (.cells #[c, d] 25)) (.cells #[.bool false, .slice none 0 0] 25) (.bool false) (.slice none 0 0)
  simpa using this

end Go.Proofs.Ytgmooidagkbheaa
