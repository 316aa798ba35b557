/-
  cylinderlaw03.awake, the check that every statement of layer 3 begins with, returns true.
-/
import Derived.Test.YtgmooidagkbheaaFew
namespace Go.Proofs.Ytgmooidagkbheaa
open Go.RowKit Go.Proofs.YtgmooidagkbheaaW.PrintWords
set_option linter.unusedVariables false

set_option maxHeartbeats 4000000 in
set_option maxRecDepth 100000 in
theorem awake_calls (w : World) : Calls Try.prog 10 #[] w fun e w' => e = .returned (.bool true) ∧ Below w.heap.size w w' := by
  have HB := Lib.hid (Below.refl w.heap.size w)
  go_enter Try.func10, Try.ntmps10
  go_wp2_with fail
  have HC1 := iof_calls (-7) (by decide) (by decide) w
  refine (HC1).mono ?_
  rintro e wc2 ⟨⟨u, rfl, hv4⟩, hb3⟩
  clear HC1
  obtain ⟨AX, AXn, AXc, rfl, hv4o⟩ := hv4.open_
  rw [show decide ((-7 : Int) < 0) = true from by decide] at hv4o ⊢
  clear hv4
  replace HB := Lib.hid (HB.out.trans (hb3.mono HB.out.size))
  clear hb3
  have X := Lib.hid (hv4o)
  clear hv4o
  go_wp2_with fail
  have HC5 := iof_calls 2 (by decide) (by decide) wc2
  refine (HC5).mono ?_
  rintro e wc6 ⟨⟨u, rfl, hv8⟩, hb7⟩
  clear HC5
  obtain ⟨AY, AYn, AYc, rfl, hv8o⟩ := hv8.open_
  rw [show decide ((2 : Int) < 0) = false from by decide] at hv8o ⊢
  clear hv8
  replace X := Lib.hid (X.out.below hb7)
  replace HB := Lib.hid (HB.out.trans (hb7.mono HB.out.size))
  clear hb7
  have Y := Lib.hid (hv8o)
  clear hv8o
  go_wp2_with fail
  have HC9 := floor_rd (X.out.rds (k := 1) (Sz.small (by decide))) (Y.out.rds (k := 1) (Sz.small (by decide))) (by decide) (by decide) (by decide)
  refine (HC9).mono ?_
  rintro e wc10 ⟨⟨u, u', rfl, hv12, hu13⟩, hb11⟩
  clear HC9
  obtain ⟨AQ, AQn, AQc, rfl, hv12o⟩ := hv12.open_
  rw [show decide ((Int.fdiv (-7) 2) < 0) = true from by decide] at hv12o ⊢
  clear hv12
  obtain ⟨AR, ARn, ARc, rfl, hu13o⟩ := hu13.open_
  rw [show decide ((Int.fmod (-7) 2) < 0) = false from by decide] at hu13o ⊢
  clear hu13
  replace X := Lib.hid (X.out.below hb11)
  replace Y := Lib.hid (Y.out.below hb11)
  replace HB := Lib.hid (HB.out.trans (hb11.mono HB.out.size))
  clear hb11
  have Q := Lib.hid (hv12o)
  clear hv12o
  have R := Lib.hid (hu13o)
  clear hu13o
  rw [show Int.fdiv (-7) 2 = -4 from by decide] at Q
  rw [show Int.fmod (-7) 2 = 1 from by decide] at R
  go_wp2_with fail
  generalize ha15 : World.alloc (World.alloc (wc10) _) _ = wa14
  have hb16 : Below wc10.heap.size wc10 wa14 := by rw [← ha15]; exact boxed2 _ _ _
  have T1 : Hid (Two wa14 (wc10.heap.size) (.bool true) (.slice AQ AQn AQc)) := Lib.hid (by rw [← ha15]; exact Two.alloc (Two.made _ _ _) _)
  have T2 : Hid (Two wa14 (wc10.heap.size + 1) (.bool false) (.slice AR ARn ARc)) := Lib.hid (by rw [← ha15]; exact Two.made2 _ _ _ _)
  clear ha15
  replace X := Lib.hid (X.out.below hb16)
  replace Y := Lib.hid (Y.out.below hb16)
  replace Q := Lib.hid (Q.out.below hb16)
  replace R := Lib.hid (R.out.below hb16)
  replace HB := Lib.hid (HB.out.trans (hb16.mono HB.out.size))
  clear hb16
  replace T1 := Lib.hid T1.out.drew
  replace T2 := Lib.hid T2.out.drew
  replace X := Lib.hid X.out.drew
  replace Y := Lib.hid Y.out.drew
  replace Q := Lib.hid Q.out.drew
  replace R := Lib.hid R.out.drew
  replace HB := Lib.hid (below_drewN HB.out 1)
  clear X Y
  have T1a := T1.out.c0
  have T1b := T1.out.c1
  have T2a := T2.out.c0
  have T2b := T2.out.c1
  go_region_held3 (fun w' => w'.cell? ⟨wc10.heap.size, 0, none⟩ = some (.bool true) ∧ w'.cell? ⟨wc10.heap.size, 1, none⟩ = some (.slice AQ AQn AQc) ∧ w'.cell? ⟨wc10.heap.size + 1, 0, none⟩ = some (.bool false) ∧ w'.cell? ⟨wc10.heap.size + 1, 1, none⟩ = some (.slice AR ARn ARc))
    ((first | (refine ⟨?_, ?_, ?_, ?_⟩ <;> (with_reducible assumption))))
    (first
     | (go_at_call 31; with_reducible refine (iof_calls (-4) (by decide) (by decide) _).mono ?_; rintro e wx ⟨⟨ux, rfl, hvx⟩, hbx⟩; obtain ⟨AU, AUn, AUc, rfl, hvy⟩ := hvx.open_; rw [show decide ((-4 : Int) < 0) = true from by decide] at hvy ⊢; clear hvx
        replace T1 := Lib.hid (T1.out.keep hbx)
        replace T2 := Lib.hid (T2.out.keep hbx)
        replace T1a := T1.out.c0
        replace T1b := T1.out.c1
        replace T2a := T2.out.c0
        replace T2b := T2.out.c1
        replace Q := Lib.hid (Q.out.below hbx)
        replace R := Lib.hid (R.out.below hbx)
        replace HB := Lib.hid (HB.out.trans (hbx.mono HB.out.size))
        have U := Lib.hid hvy
        clear hvy
        clear hbx)
     | (go_at_call 31; with_reducible refine (iof_calls 1 (by decide) (by decide) _).mono ?_; rintro e wx ⟨⟨ux, rfl, hvx⟩, hbx⟩; obtain ⟨AZ, AZn, AZc, rfl, hvy⟩ := hvx.open_; rw [show decide ((1 : Int) < 0) = false from by decide] at hvy ⊢; clear hvx
        replace T1 := Lib.hid (T1.out.keep hbx)
        replace T2 := Lib.hid (T2.out.keep hbx)
        replace T1a := T1.out.c0
        replace T1b := T1.out.c1
        replace T2a := T2.out.c0
        replace T2b := T2.out.c1
        replace Q := Lib.hid (Q.out.below hbx)
        replace R := Lib.hid (R.out.below hbx)
        replace HB := Lib.hid (HB.out.trans (hbx.mono HB.out.size))
        have Z := Lib.hid hvy
        clear hvy
        clear hbx)
     | (go_at_call 27; with_reducible refine (isame_rd (Q.out.rds (k := 1) (Sz.small (by decide))) (U.out.rds (k := 1) (Sz.small (by decide)))).mono ?_; rintro e wx ⟨rfl, hbx⟩
        replace T1 := Lib.hid (T1.out.keep hbx)
        replace T2 := Lib.hid (T2.out.keep hbx)
        replace T1a := T1.out.c0
        replace T1b := T1.out.c1
        replace T2a := T2.out.c0
        replace T2b := T2.out.c1
        replace Q := Lib.hid (Q.out.below hbx)
        replace R := Lib.hid (R.out.below hbx)
        replace HB := Lib.hid (HB.out.trans (hbx.mono HB.out.size))
        clear hbx)
     | (go_at_call 27; with_reducible refine (isame_rd (R.out.rds (k := 1) (Sz.small (by decide))) (Z.out.rds (k := 1) (Sz.small (by decide)))).mono ?_; rintro e wx ⟨rfl, hbx⟩
        replace T1 := Lib.hid (T1.out.keep hbx)
        replace T2 := Lib.hid (T2.out.keep hbx)
        replace T1a := T1.out.c0
        replace T1b := T1.out.c1
        replace T2a := T2.out.c0
        replace T2b := T2.out.c1
        replace Q := Lib.hid (Q.out.below hbx)
        replace R := Lib.hid (R.out.below hbx)
        replace HB := Lib.hid (HB.out.trans (hbx.mono HB.out.size))
        clear hbx))
  all_goals
    rename_i hH
    clear hH
    go_wp2_with fail
    go_ret
    exact ⟨rfl, HB.out⟩

theorem grow1 (w : World) (o : Obj) : Below w.heap.size w (w.alloc o) := (Below.refl _ _).alloc (Nat.le_refl _) _
theorem grow2 (w : World) (o o' : Obj) : Below w.heap.size w ((w.alloc o).alloc o') := boxed2 _ _ _
theorem cell_grow (W : World) (o : Obj) (g j : Nat) (h : g < W.heap.size) : (W.alloc o).cell? ⟨g, j, none⟩ = W.cell? ⟨g, j, none⟩ := (grow1 W o).cell (p := ⟨g, j, none⟩) h
theorem grow1d (w : World) (o : Obj) : Below w.drew.heap.size w.drew (w.alloc o).drew := grow1 w.drew o
theorem grow2d (w : World) (o o' : Obj) : Below w.drew.heap.size w.drew ((w.alloc o).alloc o').drew := grow2 w.drew o o'
theorem cell_drew (W : World) (a : Addr) : W.drew.cell? a = W.cell? a := rfl
/-- What is known of the world at hand, the world a variable from here on. -/
theorem with_facts {Q : Act → World → Prop} {a : Act} {W : World} (R : World → Prop) (h : R W) (k : ∀ F, R F → Q a F) : Q a W := k W h
theorem with_facts_at {Q : Act → World → Prop} {a : Act} {W : World} (i : Nat) {g : Nat} (hp : a.tmps[i]? = some (.pointer (some ⟨g, 0, none⟩))) (R : Nat → World → Prop) (h : R g W) (k : ∀ F, R g F → Q a F) : Q a W := k W h
theorem with_facts_at2 {Q : Act → World → Prop} {a : Act} {W : World} (i j : Nat) {g g' : Nat} (hp : a.tmps[i]? = some (.pointer (some ⟨g, 0, none⟩))) (hp' : a.tmps[j]? = some (.pointer (some ⟨g', 0, none⟩))) (R : Nat → Nat → World → Prop) (h : R g g' W) (k : ∀ F, R g g' F → Q a F) : Q a W := k W h
/-- A block that holds a flag and a slice. -/
def Bs (w : World) (g : Nat) : Prop := ∃ x A n c, Two w g (.bool x) (.slice A n c)
theorem Bs.of {w : World} {g : Nat} {x : Bool} {A : Option Addr} {n c : Nat} (h : Two w g (.bool x) (.slice A n c)) : Bs w g := ⟨_, _, _, _, h⟩
theorem Two.st {w : World} {g : Nat} (h : Bs w g) (a b : Value) : Two ((w.setCell ⟨g, 0, none⟩ a).setCell ⟨g, 1, none⟩ b) g a b := by
  obtain ⟨x, A, n, c, h⟩ := h
  exact h.store a b
theorem Two.ot {w : World} {g g' : Nat} {x y : Value} (h : Two w g x y) (hne : g ≠ g') (a b : Value) : Two ((w.setCell ⟨g', 0, none⟩ a).setCell ⟨g', 1, none⟩ b) g x y := ⟨(two_other _ _ _ _ g hne).trans h.out⟩
theorem Two.mk' {w : World} {g : Nat} (hg : w.heap.size = g) (a b : Value) : Two (w.alloc (.cells #[a, b] 25)) g a b := by
  subst hg
  exact Two.made w a b
theorem Bs.same {w : World} {g : Nat} (h : Bs w g) (x : Bool) (A : Option Addr) (n c : Nat) : Bs ((w.setCell ⟨g, 0, none⟩ (.bool x)).setCell ⟨g, 1, none⟩ (.slice A n c)) g := .of (Two.st h _ _)
theorem Bs.ot {w : World} {g g' : Nat} (h : Bs w g) (hne : g ≠ g') (a b : Value) : Bs ((w.setCell ⟨g', 0, none⟩ a).setCell ⟨g', 1, none⟩ b) g := by
  obtain ⟨x, A, n, c, h⟩ := h
  exact .of (h.ot hne a b)
theorem Bs.al {w : World} {g : Nat} (h : Bs w g) (o : Obj) : Bs (w.alloc o) g := by
  obtain ⟨x, A, n, c, h⟩ := h
  exact .of (h.alloc o)
theorem Bs.mk' {w : World} {g : Nat} (hg : w.heap.size = g) (x : Bool) (A : Option Addr) (n c : Nat) : Bs (w.alloc (.cells #[.bool x, .slice A n c] 25)) g := .of (Two.mk' hg _ _)
theorem In.st {w : World} {v : Value} {z : Int} {g : Nat} (h : In w v z) (hb : Bs w g) (u u' : Value) : In ((w.setCell ⟨g, 0, none⟩ u).setCell ⟨g, 1, none⟩ u') v z := by
  obtain ⟨x, A, n, c, hb⟩ := hb
  exact h.stored hb u u'
theorem In.al {w : World} {v : Value} {z : Int} (h : In w v z) (o : Obj) : In (w.alloc o) v z := h.below (grow1 w o)
theorem Rd.st {w : World} {v : Value} {z : Int} {k g : Nat} (h : Rd w v z k) (hb : Bs w g) (u u' : Value) : Rd ((w.setCell ⟨g, 0, none⟩ u).setCell ⟨g, 1, none⟩ u') v z k := by
  obtain ⟨x, A, n, c, hb⟩ := hb
  exact h.stored hb u u'
theorem Rd.al {w : World} {v : Value} {z : Int} {k : Nat} (h : Rd w v z k) (o : Obj) : Rd (w.alloc o) v z k := h.below (grow1 w o)
theorem Below.st {w0 w : World} {B g : Nat} (h : Below B w0 w) (hg : B ≤ g) (u u' : Value) : Below B w0 ((w.setCell ⟨g, 0, none⟩ u).setCell ⟨g, 1, none⟩ u') := Below.two h hg u u'
theorem Below.al {w0 w : World} (h : Below w0.heap.size w0 w) (o : Obj) : Below w0.heap.size w0 (w.alloc o) := h.alloc h.size o
theorem isame_eq {v v' : Value} {z z' : Int} {k k' : Nat} {w : World} (h : Rd w v z k) (h' : Rd w v' z' k') (e : z = z') : Calls Try.prog 27 #[v, v'] w fun e w' => e = .returned (.bool true) ∧ Below w.heap.size w w' := by
  have := isame_rd h h'
  rwa [show (z == z') = true from by rw [e]; simp] at this
theorem icmp_less {v v' : Value} {z z' : Int} {k k' : Nat} {w : World} (h : Rd w v z k) (h' : Rd w v' z' k') (e : z < z') : Calls Try.prog 25 #[v, v'] w fun e w' => e = .returned (.int .i64 (-1)) ∧ Below w.heap.size w w' := by
  have := icmp_rd h h'
  rwa [show cmpZ z z' = -1 from by unfold cmpZ; rw [if_pos e]] at this
theorem sign_is {v : Value} {z s : Int} {k : Nat} {w : World} (h : Rd w v z k) (e : Int.sign z = s) : Calls Try.prog 24 #[v] w fun e w' => e = .returned (.int .i64 s) ∧ Below w.heap.size w w' := by
  have := sign_rd h
  rwa [e] at this
theorem few_is {v1 v2 v3 : Value} {g1 g2 g3 : Bool} {l1 l2 l3 : List Nat} {w : World} (n : Nat) {b : Bool} (h1 : Iv w v1 g1 l1) (h2 : Iv w v2 g2 l2) (h3 : Iv w v3 g3 l3) (e : few3 n l1.length l2.length l3.length = b) :
    Calls Try.prog 11 #[.int .i64 n, v1, v2, v3] w fun e w' => e = .returned (.bool b) ∧ Below w.heap.size w w' := by
  have := few_calls n v1 v2 v3 g1 g2 g3 l1 l2 l3 w h1 h2 h3
  rwa [e] at this
theorem quo_is {v v' : Value} {z z' q r : Int} {k k' : Nat} {w : World} (h : Rd w v z k) (h' : Rd w v' z' k') (q1 : k ≤ 100000) (q2 : k' ≤ 100000) (hz : z' ≠ 0) (e : Int.tdiv z z' = q) (e' : Int.tmod z z' = r) :
    Calls Try.prog 13 #[v, v'] w fun e w' => (∃ x y, e = .returned (.tuple #[x, y, .int .i64 0]) ∧ In w' x q ∧ In w' y r) ∧ Below w.heap.size w w' := by
  subst e e'
  exact quo_rd h h' q1 q2 hz
theorem floor_is {v v' : Value} {z z' q r : Int} {k k' : Nat} {w : World} (h : Rd w v z k) (h' : Rd w v' z' k') (q1 : k ≤ 100000) (q2 : k' ≤ 100000) (hz : z' ≠ 0) (e : Int.fdiv z z' = q) (e' : Int.fmod z z' = r) :
    Calls Try.prog 14 #[v, v'] w fun e w' => (∃ x y, e = .returned (.tuple #[x, y, .int .i64 0]) ∧ In w' x q ∧ In w' y r) ∧ Below w.heap.size w w' := by
  subst e e'
  exact floor_rd h h' q1 q2 hz
theorem few3_true {n n1 n2 n3 : Nat} (h : few3 n n1 n2 n3 = true) : n1 ≤ n ∧ n2 ≤ n ∧ n3 ≤ n := by
  unfold few3 at h
  simpa using h
theorem Sz.fdiv {k : Nat} {x y : Int} (h : Sz k x) (hy : y ≠ 0) : Sz (k + 1) (Int.fdiv x y) := by
  have h1 : Sz k (Int.tdiv x y) := h.tdiv
  by_cases hs : Int.sign (Int.tmod x y) * Int.sign y < 0
  · rw [(fl_other hy hs).1]
    unfold Sz at *
    rw [Nat.pow_succ]
    have := Nat.pow_pos (n := k) (show 0 < 4294967296 by decide)
    omega
  · rw [(fl_same hy hs).1]
    exact h1.mono (Nat.le_succ _)
theorem fmod_lt_abs (a : Int) {b : Int} (hb : b ≠ 0) : (Int.fmod a b).natAbs < b.natAbs := by
  rcases Int.lt_or_lt_of_ne hb with h2 | h2
  · have := (Int.fdiv_fmod_unique' (a := a) (q := Int.fdiv a b) (r := Int.fmod a b) h2).1 ⟨rfl, rfl⟩
    omega
  · have := (Int.fdiv_fmod_unique (a := a) (q := Int.fdiv a b) (r := Int.fmod a b) h2).1 ⟨rfl, rfl⟩
    omega
theorem Sz.fmod {k : Nat} {x y : Int} (h : Sz k y) (hy : y ≠ 0) : Sz k (Int.fmod x y) := h.le (Nat.le_of_lt (fmod_lt_abs x hy))
theorem sign_tmod (a b : Int) : 0 ≤ Int.sign (Int.tmod a b) * Int.sign a := by
  rcases Int.lt_trichotomy a 0 with h | h | h
  · rw [Int.sign_eq_neg_one_of_neg h]
    have h1 : Int.tmod a b = -(Int.tmod (-a) b) := by rw [Int.neg_tmod, Int.neg_neg]
    have h2 := Int.tmod_nonneg b (show 0 ≤ -a by omega)
    have h3 : Int.tmod a b ≤ 0 := by omega
    have : Int.sign (Int.tmod a b) ≤ 0 := Int.sign_nonpos_iff.2 h3
    omega
  · subst h; simp
  · rw [Int.sign_eq_one_of_pos h]
    have h2 := Int.tmod_nonneg b (show 0 ≤ a by omega)
    have : 0 ≤ Int.sign (Int.tmod a b) := Int.sign_nonneg_iff.2 h2
    omega
theorem sign_fmod (a : Int) {b : Int} (hb : b ≠ 0) : 0 ≤ Int.sign (Int.fmod a b) * Int.sign b := by
  rcases Int.lt_or_lt_of_ne hb with h2 | h2
  · have := (Int.fdiv_fmod_unique' (a := a) (q := Int.fdiv a b) (r := Int.fmod a b) h2).1 ⟨rfl, rfl⟩
    rw [Int.sign_eq_neg_one_of_neg h2]
    have : Int.sign (Int.fmod a b) ≤ 0 := Int.sign_nonpos_iff.2 (by omega)
    omega
  · have := (Int.fdiv_fmod_unique (a := a) (q := Int.fdiv a b) (r := Int.fmod a b) h2).1 ⟨rfl, rfl⟩
    rw [Int.sign_eq_one_of_pos h2]
    have : 0 ≤ Int.sign (Int.fmod a b) := Int.sign_nonneg_iff.2 (by omega)
    omega

end Go.Proofs.Ytgmooidagkbheaa
