-- PRINTED BY print.sh 35421559b90ae4d0a3588c463048766b98c2df88dd9212a6774a882060cdf62d: not written by this session
import Derived.Test.YtgmooidagkbheaaDoorPModularPrimex0
namespace Go.Proofs.YtgmooidagkbheaaDoor.PModularPrime
open Go.RowKit Go.Proofs.YtgmooidagkbheaaDoorW.PrintWords Go.Proofs.YtgmooidagkbheaaDoorW.PrintLast Go.Proofs.YtgmooidagkbheaaDoorW.PrintMore
attribute [local go_sem] max2_int min2_int max_two min_two max_three min_three max_four min_four   -- for this text's walks alone
set_option linter.unusedVariables false
set_option linter.unusedSimpArgs false

/-! ### modular_modulus: function 49 -/
def modular_modulus.f (a0 : Int) : Option (Int) := some (IntKind.u64.wrap (mx a0 1))
set_option maxHeartbeats 8000000 in
set_option maxRecDepth 100000 in
theorem modular_modulus.calls (a0 : Int) (r : Int) (w : World) (h : modular_modulus.f a0 = some r) :
    Calls Tryd.prog 49 #[.int .u32 a0] w fun e w' => e = .returned (.int .u64 r) ∧ Below w.heap.size w w' := by
  have HB := Aside0.mk (Below.refl w.heap.size w)
  have H : (some (IntKind.u64.wrap (mx a0 1))) = some r := h
  clear h
  obtain ⟨ji2, hji2⟩ : ∃ j_ : Int, (mx a0 1) = j_ := ⟨_, rfl⟩
  replace H : (some (IntKind.u64.wrap (ji2))) = some r := by first | (rw [hji2] at H; exact H) | (simp only [hji2] at H ⊢; exact H)
  (try (have hji2l : 1 ≤ ji2 := by (rw [← hji2]; unfold mx; (repeat' split) <;> omega)))
  (try (have hji2m : 0 ≤ ji2 := by omega))
  have hji2_ : (if a0 < 1 then 1 else a0) = ji2 := hji2
  obtain rfl := Option.some.inj H
  go_enter Tryd.func49, Tryd.ntmps49
  go_wp2
  go_ret
  exact ⟨by first | rfl | (simp [errW_none, errW_some] <;> rfl) | (simp only [← hji2]; first | rfl | (simp [errW_none, errW_some] <;> rfl)) | (simp [*, errW_none, errW_some] <;> rfl), by repeat (first | (with_reducible first | exact HB.out | apply below_alloc | apply pw_below_drewN | apply below_drew1) | exact HB.out)⟩

/-! ### modular_Mul: function 17 -/
def modular_Mul.f (a0 : Int) (a1 : Int) (a2 : Int) : Option (Int) := (modular_modulus.f a2).bind fun t101 => (if t101 = 0 then (none) else (some ((Int.tmod (IntKind.u64.wrap ((IntKind.u64.wrap (a0)) * (IntKind.u64.wrap (a1)))) t101) % 4294967296)))
set_option maxHeartbeats 8000000 in
set_option maxRecDepth 100000 in
theorem modular_Mul.calls (a0 : Int) (a1 : Int) (a2 : Int) (r : Int) (w : World) (h : modular_Mul.f a0 a1 a2 = some r) :
    Calls Tryd.prog 17 #[.int .u32 a0, .int .u32 a1, .int .u32 a2] w fun e w' => e = .returned (.int .u32 r) ∧ Below w.heap.size w w' := by
  have HB := Aside0.mk (Below.refl w.heap.size w)
  have H : ((modular_modulus.f a2).bind fun t101 => (if t101 = 0 then (none) else (some ((Int.tmod (IntKind.u64.wrap ((IntKind.u64.wrap (a0)) * (IntKind.u64.wrap (a1)))) t101) % 4294967296)))) = some r := h
  clear h
  replace H := Option.bind_eq_some_iff.mp H
  obtain ⟨t101, A40, H⟩ := H
  replace H : (if t101 = 0 then (none) else (some ((Int.tmod (IntKind.u64.wrap ((IntKind.u64.wrap (a0)) * (IntKind.u64.wrap (a1)))) t101) % 4294967296))) = some r := H
  have A4 := Aside0.mk A40
  clear A40
  by_cases c5 : t101 = 0
  · rw [if_pos c5] at H
    exact absurd H (by simp)
  · rw [if_neg c5] at H
    have c5b0 : (t101 == 0) = false := beq_eq_false_iff_ne.mpr c5
    have c5b1 : (t101 != 0) = true := bne_iff_ne.mpr c5
    obtain rfl := Option.some.inj H
    go_enter Tryd.func17, Tryd.ntmps17
    go_wp2_with (first | ((with_reducible refine gate_callee (f := 49) rfl ?_); refine goesL_ (some 13) rfl rfl Tryd.func49 (by kernel_rfl) rfl #[.int .u32 a2] rfl (by (try simp only [List.map_toArray, List.map_cons, List.map_nil]); first | done | rfl | (simp only [List.length_drop, List.length_take]; rfl)) ?_; (with_reducible refine (modular_modulus.calls a2 t101 _ A4.out).mono ?_); rintro e w6 ⟨rfl, hb⟩; refine ⟨_, rfl, ?_⟩; have n0_ := Aside0.mk (below_step (by repeat (first | (with_reducible first | exact HB.out | apply below_alloc | apply pw_below_drewN | apply below_drew1) | exact HB.out)) hb); clear HB; have HB := n0_; clear n0_; (try clear hb); (try clear hb2); (try clear hk); (try clear hi)))
    go_ret
    exact ⟨by first | rfl | (simp [errW_none, errW_some] <;> rfl) | (simp [*, errW_none, errW_some] <;> rfl), by repeat (first | (with_reducible first | exact HB.out | apply below_alloc | apply pw_below_drewN | apply below_drew1) | exact HB.out)⟩

/-! ### modular_Inverse: function 19 -/
def modular_Inverse.l0 : Nat → Int → Int → Int → Int → Int → Option (Int × Int)
  | 0, _, _, _, _, _ => none
  | k + 1, x6, x7, x8, x9, x10 => if x8 = 0 then (if x7 = 1 then (if x6 = 0 then (none) else (some ((Int.tmod (wrap64 ((Int.tmod x9 x6) + x6)) x6) % 4294967296, 0))) else (some (0, 5))) else (modular_Inverse.l0 k x6 x8 (wrap64 (x7 - (wrap64 ((wrap64 (Int.tdiv x7 x8)) * x8)))) x10 (wrap64 (x9 - (wrap64 ((wrap64 (Int.tdiv x7 x8)) * x10)))))
def modular_Inverse.f (k : Nat) (a0 : Int) (a1 : Int) : Option (Int × Int) := (modular_modulus.f a1).bind fun t102 => (if (wrap64 (t102)) = 0 then (none) else (modular_Inverse.l0 k (wrap64 (t102)) (Int.tmod (wrap64 (a0)) (wrap64 (t102))) (wrap64 (t102)) 1 0))
theorem modular_Inverse.mono_l : ∀ k, (∀ y0 y1 y2 y3 y4, LeO (modular_Inverse.l0 k y0 y1 y2 y3 y4) (modular_Inverse.l0 (k + 1) y0 y1 y2 y3 y4))
  | 0 => fun _ _ _ _ _ r h => by simp [modular_Inverse.l0] at h
  | k + 1 => by
    have ih0 := modular_Inverse.mono_l k
    · intro y0 y1 y2 y3 y4
      unfold modular_Inverse.l0
      repeat' first
      | (with_reducible exact ih0 _ _ _ _ _)
      | (with_reducible exact LeO.refl _)
      | (with_reducible exact LeO.none _)
      | (with_reducible refine LeO.ite ?_ ?_)
      | (with_reducible refine LeO.bind ?_ (fun _ => ?_))
      | exact ih0 _ _ _ _ _
      | exact LeO.none _
      | refine LeO.ite ?_ ?_
      | refine LeO.bind ?_ (fun _ => ?_)
theorem modular_Inverse.mono : ∀ a0 a1 k, LeO (modular_Inverse.f k a0 a1) (modular_Inverse.f (k + 1) a0 a1) := by
  intro a0 a1 k
  have ih0 := modular_Inverse.mono_l k
  unfold modular_Inverse.f
  repeat' first
      | (with_reducible exact ih0 _ _ _ _ _)
      | (with_reducible exact LeO.refl _)
      | (with_reducible exact LeO.none _)
      | (with_reducible refine LeO.ite ?_ ?_)
      | (with_reducible refine LeO.bind ?_ (fun _ => ?_))
      | exact ih0 _ _ _ _ _
      | exact LeO.none _
      | refine LeO.ite ?_ ?_
      | refine LeO.bind ?_ (fun _ => ?_)
set_option maxHeartbeats 8000000 in
set_option maxRecDepth 100000 in
theorem modular_Inverse.calls (k : Nat) (a0 : Int) (a1 : Int) (r1 : Int) (r2 : Int) (w : World) (h : modular_Inverse.f k a0 a1 = some (r1, r2)) :
    Calls Tryd.prog 19 #[.int .u32 a0, .int .u32 a1] w fun e w' => e = .returned (.tuple #[.int .u32 r1, .int .i64 r2]) ∧ Below w.heap.size w w' := by
  have HB := Aside0.mk (Below.refl w.heap.size w)
  have H : ((modular_modulus.f a1).bind fun t102 => (if (wrap64 (t102)) = 0 then (none) else (modular_Inverse.l0 k (wrap64 (t102)) (Int.tmod (wrap64 (a0)) (wrap64 (t102))) (wrap64 (t102)) 1 0))) = some (r1, r2) := h
  clear h
  replace H := Option.bind_eq_some_iff.mp H
  obtain ⟨t102, A30, H⟩ := H
  replace H : (if (wrap64 (t102)) = 0 then (none) else (modular_Inverse.l0 k (wrap64 (t102)) (Int.tmod (wrap64 (a0)) (wrap64 (t102))) (wrap64 (t102)) 1 0)) = some (r1, r2) := H
  have A3 := Aside0.mk A30
  clear A30
  by_cases c4 : (wrap64 (t102)) = 0
  · rw [if_pos c4] at H
    exact absurd H (by simp)
  · rw [if_neg c4] at H
    have c4b0 : ((wrap64 (t102)) == 0) = false := beq_eq_false_iff_ne.mpr c4
    have c4b1 : ((wrap64 (t102)) != 0) = true := bne_iff_ne.mpr c4
    have H' := Aside0.mk H
    clear H
    go_enter Tryd.func19, Tryd.ntmps19
    go_wp2_with (first | ((with_reducible refine gate_callee (f := 49) rfl ?_); refine goesL_ (some 13) rfl rfl Tryd.func49 (by kernel_rfl) rfl #[.int .u32 a1] rfl (by (try simp only [List.map_toArray, List.map_cons, List.map_nil]); first | done | rfl | (simp only [List.length_drop, List.length_take]; rfl)) ?_; (with_reducible refine (modular_modulus.calls a1 t102 _ A3.out).mono ?_); rintro e w5 ⟨rfl, hb⟩; refine ⟨_, rfl, ?_⟩; have n0_ := Aside0.mk (below_step (by repeat (first | (with_reducible first | exact HB.out | apply below_alloc | apply pw_below_drewN | apply below_drew1) | exact HB.out)) hb); clear HB; have HB := n0_; clear n0_; (try clear hb); (try clear hb2); (try clear hk); (try clear hi)))
    go_loopg [7, 8, 9, 10] k (fun kq v7 v8 v9 v10 w' => ∃ (x7_1 : Int) (x8_1 : Int) (x9_1 : Int) (x10_1 : Int), v7 = .int .i64 x7_1 ∧ v8 = .int .i64 x8_1 ∧ v9 = .int .i64 x9_1 ∧ v10 = .int .i64 x10_1 ∧ Aside0 (modular_Inverse.l0 kq (wrap64 (t102)) x7_1 x8_1 x9_1 x10_1 = some (r1, r2)) ∧ Aside0 (kq ≤ k) ∧ Aside0 (Below w.heap.size w w'))
    case atStart => exact ⟨(Int.tmod (wrap64 (a0)) (wrap64 (t102))), (wrap64 (t102)), (1), (0), (by first | rfl | (simp; done) | (simp [*]; done)), (by first | rfl | (simp; done) | (simp [*]; done)), (by first | rfl | (simp; done) | (simp [*]; done)), (by first | rfl | (simp; done) | (simp [*]; done)), H', ⟨Nat.le_refl _⟩, ⟨by repeat (first | (with_reducible first | exact HB.out | apply below_alloc | apply pw_below_drewN | apply below_drew1) | exact HB.out)⟩⟩
    case round =>
      clear H'
      try clear c1
      try clear p2
      try clear c4
      try clear c4b0
      try clear c4b1
      obtain ⟨x7_1, x8_1, x9_1, x10_1, rfl, rfl, rfl, rfl, HA, HK1, HB⟩ := hrel
      cases gk with
      | zero => exact absurd HA.out (by simp [modular_Inverse.l0])
      | succ k1 =>
        have H := HA.out
        clear HA
        simp only [modular_Inverse.l0] at H
        by_cases c6 : x8_1 = 0
        · rw [if_pos c6] at H
          have c6b0 : (x8_1 == 0) = true := beq_iff_eq.mpr c6
          have c6b1 : (x8_1 != 0) = false := bne_eq_false_iff_eq.mpr c6
          clear c6
          by_cases c7 : x7_1 = 1
          · rw [if_pos c7] at H
            have c7b0 : (x7_1 == 1) = true := beq_iff_eq.mpr c7
            have c7b1 : (x7_1 != 1) = false := bne_eq_false_iff_eq.mpr c7
            clear c7
            by_cases c8 : (wrap64 (t102)) = 0
            · rw [if_pos c8] at H
              exact absurd H (by simp)
            · rw [if_neg c8] at H
              have c8b0 : ((wrap64 (t102)) == 0) = false := beq_eq_false_iff_ne.mpr c8
              have c8b1 : ((wrap64 (t102)) != 0) = true := bne_iff_ne.mpr c8
              simp only [Option.some.injEq, Prod.mk.injEq] at H
              obtain ⟨rfl, rfl⟩ := H
              go_wp2
              go_ret2
              exact ⟨by first | rfl | (simp [errW_none, errW_some] <;> rfl) | (simp [*, errW_none, errW_some] <;> rfl), by repeat (first | (with_reducible first | exact HB.out | apply below_alloc | apply pw_below_drewN | apply below_drew1) | exact HB.out)⟩
          · rw [if_neg c7] at H
            have c7b0 : (x7_1 == 1) = false := beq_eq_false_iff_ne.mpr c7
            have c7b1 : (x7_1 != 1) = true := bne_iff_ne.mpr c7
            simp only [Option.some.injEq, Prod.mk.injEq] at H
            obtain ⟨rfl, rfl⟩ := H
            go_wp2
            go_ret2
            exact ⟨by first | rfl | (simp [errW_none, errW_some] <;> rfl) | (simp [*, errW_none, errW_some] <;> rfl), by repeat (first | (with_reducible first | exact HB.out | apply below_alloc | apply pw_below_drewN | apply below_drew1) | exact HB.out)⟩
        · rw [if_neg c6] at H
          have c6b0 : (x8_1 == 0) = false := beq_eq_false_iff_ne.mpr c6
          have c6b1 : (x8_1 != 0) = true := bne_iff_ne.mpr c6
          have H' := Aside0.mk H
          clear H
          go_wp2
          go_roundg k1
          case measure => have := HK1.out; omega
          case rel => exact ⟨(x8_1), (wrap64 (x7_1 - (wrap64 ((wrap64 (Int.tdiv x7_1 x8_1)) * x8_1)))), (x10_1), (wrap64 (x9_1 - (wrap64 ((wrap64 (Int.tdiv x7_1 x8_1)) * x10_1)))), (by first | rfl | (simp; done) | (simp [*]; done)), (by first | rfl | (simp; done) | (simp [*]; done)), (by first | rfl | (simp; done) | (simp [*]; done)), (by first | rfl | (simp; done) | (simp [*]; done)), H', ⟨by have := HK1.out; omega⟩, ⟨by repeat (first | (with_reducible first | exact HB.out | apply below_alloc | apply pw_below_drewN | apply below_drew1) | exact HB.out)⟩⟩

-- NOT PRINTED: function 50 (bits_TrailingZeros32)

/-! ### modular_Pow: function 15 -/
def modular_Pow.l0 : Nat → Int → Int → Int → Int → Option (Int)
  | 0, _, _, _, _ => none
  | k + 1, x0, x1, x2, x7 => if x1 > 0 then (if (Go.bits .and .u64 x1 1) = 0 then ((modular_Mul.f x0 x0 x2).bind fun t104 => (modular_Pow.l0 k t104 (x1 / 2) x2 x7)) else ((modular_Mul.f x7 x0 x2).bind fun t105 => ((modular_Mul.f x0 x0 x2).bind fun t106 => (modular_Pow.l0 k t106 (x1 / 2) x2 t105)))) else (some x7)
def modular_Pow.f (k : Nat) (a0 : Int) (a1 : Int) (a2 : Int) : Option (Int) := (modular_modulus.f a2).bind fun t103 => (if t103 = 0 then (none) else (modular_Pow.l0 k a0 a1 a2 (((1 : Int) % t103) % 4294967296)))
theorem modular_Pow.mono_l : ∀ k, (∀ y0 y1 y2 y3, LeO (modular_Pow.l0 k y0 y1 y2 y3) (modular_Pow.l0 (k + 1) y0 y1 y2 y3))
  | 0 => fun _ _ _ _ r h => by simp [modular_Pow.l0] at h
  | k + 1 => by
    have ih0 := modular_Pow.mono_l k
    · intro y0 y1 y2 y3
      unfold modular_Pow.l0
      repeat' first
      | (with_reducible exact ih0 _ _ _ _)
      | (with_reducible exact LeO.refl _)
      | (with_reducible exact LeO.none _)
      | (with_reducible refine LeO.ite ?_ ?_)
      | (with_reducible refine LeO.bind ?_ (fun _ => ?_))
      | exact ih0 _ _ _ _
      | exact LeO.none _
      | refine LeO.ite ?_ ?_
      | refine LeO.bind ?_ (fun _ => ?_)
theorem modular_Pow.mono : ∀ a0 a1 a2 k, LeO (modular_Pow.f k a0 a1 a2) (modular_Pow.f (k + 1) a0 a1 a2) := by
  intro a0 a1 a2 k
  have ih0 := modular_Pow.mono_l k
  unfold modular_Pow.f
  repeat' first
      | (with_reducible exact ih0 _ _ _ _)
      | (with_reducible exact LeO.refl _)
      | (with_reducible exact LeO.none _)
      | (with_reducible refine LeO.ite ?_ ?_)
      | (with_reducible refine LeO.bind ?_ (fun _ => ?_))
      | exact ih0 _ _ _ _
      | exact LeO.none _
      | refine LeO.ite ?_ ?_
      | refine LeO.bind ?_ (fun _ => ?_)
set_option maxHeartbeats 8000000 in
set_option maxRecDepth 100000 in
theorem modular_Pow.calls (k : Nat) (a0 : Int) (a1 : Int) (a2 : Int) (r : Int) (w : World) (h : modular_Pow.f k a0 a1 a2 = some r) :
    Calls Tryd.prog 15 #[.int .u32 a0, .int .u64 a1, .int .u32 a2] w fun e w' => e = .returned (.int .u32 r) ∧ Below w.heap.size w w' := by
  have HB := Aside0.mk (Below.refl w.heap.size w)
  have H : ((modular_modulus.f a2).bind fun t103 => (if t103 = 0 then (none) else (modular_Pow.l0 k a0 a1 a2 (((1 : Int) % t103) % 4294967296)))) = some r := h
  clear h
  replace H := Option.bind_eq_some_iff.mp H
  obtain ⟨t103, A40, H⟩ := H
  replace H : (if t103 = 0 then (none) else (modular_Pow.l0 k a0 a1 a2 (((1 : Int) % t103) % 4294967296))) = some r := H
  have A4 := Aside0.mk A40
  clear A40
  by_cases c5 : t103 = 0
  · rw [if_pos c5] at H
    exact absurd H (by simp)
  · rw [if_neg c5] at H
    have c5b0 : (t103 == 0) = false := beq_eq_false_iff_ne.mpr c5
    have c5b1 : (t103 != 0) = true := bne_iff_ne.mpr c5
    have H' := Aside0.mk H
    clear H
    go_enter Tryd.func15, Tryd.ntmps15
    go_wp2_with (first | ((with_reducible refine gate_callee (f := 49) rfl ?_); refine goesL_ (some 9) rfl rfl Tryd.func49 (by kernel_rfl) rfl #[.int .u32 a2] rfl (by (try simp only [List.map_toArray, List.map_cons, List.map_nil]); first | done | rfl | (simp only [List.length_drop, List.length_take]; rfl)) ?_; (with_reducible refine (modular_modulus.calls a2 t103 _ A4.out).mono ?_); rintro e w6 ⟨rfl, hb⟩; refine ⟨_, rfl, ?_⟩; have n0_ := Aside0.mk (below_step (by repeat (first | (with_reducible first | exact HB.out | apply below_alloc | apply pw_below_drewN | apply below_drew1) | exact HB.out)) hb); clear HB; have HB := n0_; clear n0_; (try clear hb); (try clear hb2); (try clear hk); (try clear hi)))
    go_loopg [0, 1, 7] k (fun kq v0 v1 v7 w' => ∃ (x0_1 : Int) (x1_1 : Int) (x7_1 : Int), v0 = .int .u32 x0_1 ∧ v1 = .int .u64 x1_1 ∧ v7 = .int .u32 x7_1 ∧ Aside0 (modular_Pow.l0 kq x0_1 x1_1 a2 x7_1 = some r) ∧ Aside0 (kq ≤ k) ∧ Aside0 (Below w.heap.size w w'))
    case atStart => exact ⟨(a0), (a1), (((1 : Int) % t103) % 4294967296), (by first | rfl | (simp; done) | (simp [*]; done)), (by first | rfl | (simp; done) | (simp [*]; done)), (by first | rfl | (simp; done) | (simp [*]; done)), H', ⟨Nat.le_refl _⟩, ⟨by repeat (first | (with_reducible first | exact HB.out | apply below_alloc | apply pw_below_drewN | apply below_drew1) | exact HB.out)⟩⟩
    case round =>
      clear H'
      try clear c1
      try clear p2
      try clear c4
      try clear c5
      try clear c5b0
      try clear c5b1
      obtain ⟨x0_1, x1_1, x7_1, rfl, rfl, rfl, HA, HK1, HB⟩ := hrel
      cases gk with
      | zero => exact absurd HA.out (by simp [modular_Pow.l0])
      | succ k1 =>
        have H := HA.out
        clear HA
        simp only [modular_Pow.l0] at H
        by_cases c7 : x1_1 > 0
        · rw [if_pos c7] at H
          have c7b0 : decide (0 < x1_1) = true := decide_eq_true c7
          clear c7
          by_cases c8 : (Go.bits .and .u64 x1_1 1) = 0
          · rw [if_pos c8] at H
            have c8b0 : ((Go.bits .and .u64 x1_1 1) == 0) = true := beq_iff_eq.mpr c8
            have c8b1 : ((Go.bits .and .u64 x1_1 1) != 0) = false := bne_eq_false_iff_eq.mpr c8
            clear c8
            replace H := Option.bind_eq_some_iff.mp H
            obtain ⟨t104, A90, H⟩ := H
            replace H : (modular_Pow.l0 k1 t104 (x1_1 / 2) a2 x7_1) = some r := H
            have A9 := Aside0.mk A90
            clear A90
            have H' := Aside0.mk H
            clear H
            go_wp2_with (first | ((with_reducible refine gate_callee (f := 17) rfl ?_); refine goesL_ (some 26) rfl rfl Tryd.func17 (by kernel_rfl) rfl #[.int .u32 x0_1, .int .u32 x0_1, .int .u32 a2] rfl (by (try simp only [List.map_toArray, List.map_cons, List.map_nil]); first | done | rfl | (simp only [List.length_drop, List.length_take]; rfl)) ?_; (with_reducible refine (modular_Mul.calls x0_1 x0_1 a2 t104 _ A9.out).mono ?_); rintro e w10 ⟨rfl, hb⟩; refine ⟨_, rfl, ?_⟩; have n0_ := Aside0.mk (below_step (by repeat (first | (with_reducible first | exact HB.out | apply below_alloc | apply pw_below_drewN | apply below_drew1) | exact HB.out)) hb); clear HB; have HB := n0_; clear n0_; (try clear hb); (try clear hb2); (try clear hk); (try clear hi)))
            go_roundg k1
            case measure => have := HK1.out; omega
            case rel => exact ⟨(t104), (x1_1 / 2), (x7_1), (by first | rfl | (simp; done) | (simp [*]; done)), (by first | rfl | (simp; done) | (simp [*]; done)), (by first | rfl | (simp; done) | (simp [*]; done)), H', ⟨by have := HK1.out; omega⟩, ⟨by repeat (first | (with_reducible first | exact HB.out | apply below_alloc | apply pw_below_drewN | apply below_drew1) | exact HB.out)⟩⟩
          · rw [if_neg c8] at H
            have c8b0 : ((Go.bits .and .u64 x1_1 1) == 0) = false := beq_eq_false_iff_ne.mpr c8
            have c8b1 : ((Go.bits .and .u64 x1_1 1) != 0) = true := bne_iff_ne.mpr c8
            replace H := Option.bind_eq_some_iff.mp H
            obtain ⟨t105, A110, H⟩ := H
            replace H : ((modular_Mul.f x0_1 x0_1 a2).bind fun t106 => (modular_Pow.l0 k1 t106 (x1_1 / 2) a2 t105)) = some r := H
            have A11 := Aside0.mk A110
            clear A110
            replace H := Option.bind_eq_some_iff.mp H
            obtain ⟨t106, A120, H⟩ := H
            replace H : (modular_Pow.l0 k1 t106 (x1_1 / 2) a2 t105) = some r := H
            have A12 := Aside0.mk A120
            clear A120
            have H' := Aside0.mk H
            clear H
            go_wp2_with (first | ((with_reducible refine gate_callee (f := 17) rfl ?_); refine goesL_ (some 22) rfl rfl Tryd.func17 (by kernel_rfl) rfl #[.int .u32 x7_1, .int .u32 x0_1, .int .u32 a2] rfl (by (try simp only [List.map_toArray, List.map_cons, List.map_nil]); first | done | rfl | (simp only [List.length_drop, List.length_take]; rfl)) ?_; (with_reducible refine (modular_Mul.calls x7_1 x0_1 a2 t105 _ A11.out).mono ?_); rintro e w13 ⟨rfl, hb⟩; refine ⟨_, rfl, ?_⟩; have n0_ := Aside0.mk (below_step (by repeat (first | (with_reducible first | exact HB.out | apply below_alloc | apply pw_below_drewN | apply below_drew1) | exact HB.out)) hb); clear HB; have HB := n0_; clear n0_; (try clear hb); (try clear hb2); (try clear hk); (try clear hi)) | ((with_reducible refine gate_callee (f := 17) rfl ?_); refine goesL_ (some 26) rfl rfl Tryd.func17 (by kernel_rfl) rfl #[.int .u32 x0_1, .int .u32 x0_1, .int .u32 a2] rfl (by (try simp only [List.map_toArray, List.map_cons, List.map_nil]); first | done | rfl | (simp only [List.length_drop, List.length_take]; rfl)) ?_; (with_reducible refine (modular_Mul.calls x0_1 x0_1 a2 t106 _ A12.out).mono ?_); rintro e w14 ⟨rfl, hb⟩; refine ⟨_, rfl, ?_⟩; have n0_ := Aside0.mk (below_step (by repeat (first | (with_reducible first | exact HB.out | apply below_alloc | apply pw_below_drewN | apply below_drew1) | exact HB.out)) hb); clear HB; have HB := n0_; clear n0_; (try clear hb); (try clear hb2); (try clear hk); (try clear hi)))
            go_roundg k1
            case measure => have := HK1.out; omega
            case rel => exact ⟨(t106), (x1_1 / 2), (t105), (by first | rfl | (simp; done) | (simp [*]; done)), (by first | rfl | (simp; done) | (simp [*]; done)), (by first | rfl | (simp; done) | (simp [*]; done)), H', ⟨by have := HK1.out; omega⟩, ⟨by repeat (first | (with_reducible first | exact HB.out | apply below_alloc | apply pw_below_drewN | apply below_drew1) | exact HB.out)⟩⟩
        · rw [if_neg c7] at H
          have c7b0 : decide (0 < x1_1) = false := decide_eq_false c7
          clear c7
          obtain rfl := Option.some.inj H
          go_wp2
          go_ret
          exact ⟨by first | rfl | (simp [errW_none, errW_some] <;> rfl) | (simp [*, errW_none, errW_some] <;> rfl), by repeat (first | (with_reducible first | exact HB.out | apply below_alloc | apply pw_below_drewN | apply below_drew1) | exact HB.out)⟩

/-! ### modular_probable: function 51 -/
mutual
def modular_probable.j0 : Nat → Int → Int → Int → Bool → Option (Bool)
  | 0, _, _, _, _ => none
  | k + 1, x0, x2, x7, x25 => if x25 = true then (some true) else (modular_probable.l0 k x0 x2 x7 1)
def modular_probable.l0 : Nat → Int → Int → Int → Int → Option (Bool)
  | 0, _, _, _, _ => none
  | k + 1, x0, x2, x7, x8 => if x8 < x2 then ((modular_Mul.f x7 x7 x0).bind fun t108 => (if t108 = ((x0 - 1) % 4294967296) then (some true) else (modular_probable.l0 k x0 x2 t108 (wrap64 (x8 + 1))))) else (some false)
end
def modular_probable.f (k : Nat) (a0 : Int) (a1 : Int) (a2 : Int) : Option (Bool) := if 0 ≤ (IntKind.u64.wrap (a2)) then ((modular_Pow.f k a1 (shr .u64 ((a0 - 1) % 4294967296) (IntKind.u64.wrap (a2))) a0).bind fun t107 => (if t107 = 1 then (modular_probable.j0 k a0 a2 t107 true) else (modular_probable.j0 k a0 a2 t107 (t107 == ((a0 - 1) % 4294967296))))) else (none)
theorem modular_probable.mono_l : ∀ k, (∀ y0 y1 y2 y3, LeO (modular_probable.j0 k y0 y1 y2 y3) (modular_probable.j0 (k + 1) y0 y1 y2 y3)) ∧ (∀ y0 y1 y2 y3, LeO (modular_probable.l0 k y0 y1 y2 y3) (modular_probable.l0 (k + 1) y0 y1 y2 y3))
  | 0 => ⟨fun _ _ _ _ r h => by simp [modular_probable.j0] at h, fun _ _ _ _ r h => by simp [modular_probable.l0] at h⟩
  | k + 1 => by
    obtain ⟨ih0, ih1⟩ := modular_probable.mono_l k
    refine ⟨?_, ?_⟩
    · intro y0 y1 y2 y3
      unfold modular_probable.j0
      repeat' first
      | (with_reducible exact ih0 _ _ _ _)
      | (with_reducible exact ih1 _ _ _ _)
      | (with_reducible exact modular_Pow.mono _ _ _ _)
      | (with_reducible exact LeO.refl _)
      | (with_reducible exact LeO.none _)
      | (with_reducible refine LeO.ite ?_ ?_)
      | (with_reducible refine LeO.bind ?_ (fun _ => ?_))
      | exact ih0 _ _ _ _
      | exact ih1 _ _ _ _
      | exact modular_Pow.mono _ _ _ _
      | exact LeO.none _
      | refine LeO.ite ?_ ?_
      | refine LeO.bind ?_ (fun _ => ?_)
    · intro y0 y1 y2 y3
      unfold modular_probable.l0
      repeat' first
      | (with_reducible exact ih0 _ _ _ _)
      | (with_reducible exact ih1 _ _ _ _)
      | (with_reducible exact modular_Pow.mono _ _ _ _)
      | (with_reducible exact LeO.refl _)
      | (with_reducible exact LeO.none _)
      | (with_reducible refine LeO.ite ?_ ?_)
      | (with_reducible refine LeO.bind ?_ (fun _ => ?_))
      | exact ih0 _ _ _ _
      | exact ih1 _ _ _ _
      | exact modular_Pow.mono _ _ _ _
      | exact LeO.none _
      | refine LeO.ite ?_ ?_
      | refine LeO.bind ?_ (fun _ => ?_)
theorem modular_probable.mono : ∀ a0 a1 a2 k, LeO (modular_probable.f k a0 a1 a2) (modular_probable.f (k + 1) a0 a1 a2) := by
  intro a0 a1 a2 k
  obtain ⟨ih0, ih1⟩ := modular_probable.mono_l k
  unfold modular_probable.f
  repeat' first
      | (with_reducible exact ih0 _ _ _ _)
      | (with_reducible exact ih1 _ _ _ _)
      | (with_reducible exact modular_Pow.mono _ _ _ _)
      | (with_reducible exact LeO.refl _)
      | (with_reducible exact LeO.none _)
      | (with_reducible refine LeO.ite ?_ ?_)
      | (with_reducible refine LeO.bind ?_ (fun _ => ?_))
      | exact ih0 _ _ _ _
      | exact ih1 _ _ _ _
      | exact modular_Pow.mono _ _ _ _
      | exact LeO.none _
      | refine LeO.ite ?_ ?_
      | refine LeO.bind ?_ (fun _ => ?_)
set_option maxHeartbeats 8000000 in
set_option maxRecDepth 100000 in
theorem modular_probable.calls (k : Nat) (a0 : Int) (a1 : Int) (a2 : Int) (r : Bool) (w : World) (h : modular_probable.f k a0 a1 a2 = some r) :
    Calls Tryd.prog 51 #[.int .u32 a0, .int .u32 a1, .int .i64 a2] w fun e w' => e = .returned (.bool r) ∧ Below w.heap.size w w' := by
  have HB := Aside0.mk (Below.refl w.heap.size w)
  have H : (if 0 ≤ (IntKind.u64.wrap (a2)) then ((modular_Pow.f k a1 (shr .u64 ((a0 - 1) % 4294967296) (IntKind.u64.wrap (a2))) a0).bind fun t107 => (if t107 = 1 then (modular_probable.j0 k a0 a2 t107 true) else (modular_probable.j0 k a0 a2 t107 (t107 == ((a0 - 1) % 4294967296))))) else (none)) = some r := h
  clear h
  obtain ⟨ji4, hji4⟩ : ∃ j_ : Int, (IntKind.u64.wrap (a2)) = j_ := ⟨_, rfl⟩
  replace H : (if 0 ≤ (ji4) then ((modular_Pow.f k a1 (shr .u64 ((a0 - 1) % 4294967296) (ji4)) a0).bind fun t107 => (if t107 = 1 then (modular_probable.j0 k a0 a2 t107 true) else (modular_probable.j0 k a0 a2 t107 (t107 == ((a0 - 1) % 4294967296))))) else (none)) = some r := by first | (rw [hji4] at H; exact H) | (simp only [hji4] at H ⊢; exact H)
  by_cases c5 : 0 ≤ (ji4)
  · rw [if_pos c5] at H
    have c5b0 := eq_true c5
    have c5b1 : decide (0 ≤ (ji4)) = true := decide_eq_true c5
    clear c5
    obtain ⟨ji6, hji6⟩ : ∃ j_ : Int, (shr .u64 ((a0 - 1) % 4294967296) (ji4)) = j_ := ⟨_, rfl⟩
    replace H : ((modular_Pow.f k a1 (ji6) a0).bind fun t107 => (if t107 = 1 then (modular_probable.j0 k a0 a2 t107 true) else (modular_probable.j0 k a0 a2 t107 (t107 == ((a0 - 1) % 4294967296))))) = some r := by first | (rw [hji6] at H; exact H) | (simp only [hji6] at H ⊢; exact H)
    have hji6_ : (((a0 - 1) % 4294967296) / 2 ^ min (ji4).toNat 64) = ji6 := hji6
    have hji6z : (ji4) ≤ 64 → (((a0 - 1) % 4294967296) / 2 ^ (ji4).toNat) = ji6 := shr_small hji6
    replace H := Option.bind_eq_some_iff.mp H
    obtain ⟨t107, A70, H⟩ := H
    replace H : (if t107 = 1 then (modular_probable.j0 k a0 a2 t107 true) else (modular_probable.j0 k a0 a2 t107 (t107 == ((a0 - 1) % 4294967296)))) = some r := H
    have A7 := Aside0.mk A70
    clear A70
    have HC8 := Aside0.mk H
    clear H
    go_enter Tryd.func51, Tryd.ntmps51
    go_upto_region 2 with (first | ((with_reducible refine gate_callee (f := 15) rfl ?_); refine goesL_ (some 17) rfl rfl Tryd.func15 (by kernel_rfl) rfl #[.int .u32 a1, .int .u64 ji6, .int .u32 a0] rfl (by (try simp only [List.map_toArray, List.map_cons, List.map_nil]); first | done | (simp only [hji6]; rfl) | rfl | (simp only [List.length_drop, List.length_take]; rfl)) ?_; (with_reducible refine (modular_Pow.calls k a1 ji6 a0 t107 _ A7.out).mono ?_); rintro e w9 ⟨rfl, hb⟩; refine ⟨_, rfl, ?_⟩; have n0_ := Aside0.mk (below_step (by repeat (first | (with_reducible first | exact HB.out | apply below_alloc | apply pw_below_drewN | apply below_drew1) | exact HB.out)) hb); clear HB; have HB := n0_; clear n0_; (try clear hb); (try clear hb2); (try clear hk); (try clear hi)))
    (try simp only [Act.put, List.setIfInBounds_toArray, List.set_cons_zero, List.set_cons_succ])
    go_cut [25] (fun v25 wc => ∃ (kq : Nat) (x25_7 : Bool), v25 = .bool x25_7 ∧ Aside0 (modular_probable.j0 kq a0 a2 t107 x25_7 = some r) ∧ Aside0 (kq ≤ k) ∧ Aside0 (Below w.heap.size w wc))
    case first =>
      have H := HC8.out
      clear HC8
      by_cases c10 : t107 = 1
      · rw [if_pos c10] at H
        have c10b0 : (t107 == 1) = true := beq_iff_eq.mpr c10
        have c10b1 : (t107 != 1) = false := bne_eq_false_iff_eq.mpr c10
        clear c10
        (first | rw [c10b0] | (simp only [i64_w, i32_w]; rw [c10b0]) | skip)
        have H' := Aside0.mk H
        clear H
        go_wp2
        go_meet
        case rel => exact ⟨_, (true), (by first | rfl | (simp; done) | (simp [*]; done)), H', ⟨by first | omega | exact Nat.le_refl _⟩, ⟨by repeat (first | (with_reducible first | exact HB.out | apply below_alloc | apply pw_below_drewN | apply below_drew1) | exact HB.out)⟩⟩
      · rw [if_neg c10] at H
        have c10b0 : (t107 == 1) = false := beq_eq_false_iff_ne.mpr c10
        have c10b1 : (t107 != 1) = true := bne_iff_ne.mpr c10
        (first | rw [c10b0] | (simp only [i64_w, i32_w]; rw [c10b0]) | skip)
        have H' := Aside0.mk H
        clear H
        go_wp2
        go_meet
        case rel => exact ⟨_, ((t107 == ((a0 - 1) % 4294967296))), (by first | rfl | (simp; done) | (simp [*]; done)), H', ⟨by first | omega | exact Nat.le_refl _⟩, ⟨by repeat (first | (with_reducible first | exact HB.out | apply below_alloc | apply pw_below_drewN | apply below_drew1) | exact HB.out)⟩⟩
    case rest =>
      clear HC8
      try clear c1
      try clear p2
      try clear c5
      try clear c5b0
      try clear c5b1
      try clear c10
      try clear c10b0
      try clear c10b1
      obtain ⟨kq, x25_7, rfl, HA, HJ7, HB⟩ := hcut
      cases kq with
      | zero => exact absurd HA.out (by simp [modular_probable.j0])
      | succ kj7 =>
        have H := HA.out
        clear HA
        simp only [modular_probable.j0] at H
        by_cases c11 : x25_7 = true
        · subst c11
          have H1 : (some true) = some r := by rw [if_pos rfl] at H; exact H
          clear H
          have H := H1
          clear H1
          obtain rfl := Option.some.inj H
          go_wp2
          go_ret
          exact ⟨by first | rfl | (simp [errW_none, errW_some] <;> rfl) | (simp only [← hji4, ← hji6]; first | rfl | (simp [errW_none, errW_some] <;> rfl)) | (simp [*, errW_none, errW_some] <;> rfl), by repeat (first | (with_reducible first | exact HB.out | apply below_alloc | apply pw_below_drewN | apply below_drew1) | exact HB.out)⟩
        · replace c11 := Bool.eq_false_iff.mpr c11
          subst c11
          have H1 : (modular_probable.l0 kj7 a0 a2 t107 1) = some r := by rw [if_neg (show ¬ (false = true) by decide)] at H; exact H
          clear H
          have H := H1
          clear H1
          have H' := Aside0.mk H
          clear H
          go_wp2
          go_loopg [7, 8] kj7 (fun kq v7 v8 w' => ∃ (x7_2 : Int) (x8_2 : Int), v7 = .int .u32 x7_2 ∧ v8 = .int .i64 x8_2 ∧ Aside0 (modular_probable.l0 kq a0 a2 x7_2 x8_2 = some r) ∧ Aside0 (kq ≤ kj7) ∧ Aside0 (Below w.heap.size w w'))
          case atStart => exact ⟨(t107), (1), (by first | rfl | (simp; done) | (simp [*]; done)), (by first | rfl | (simp; done) | (simp [*]; done)), H', ⟨Nat.le_refl _⟩, ⟨by repeat (first | (with_reducible first | exact HB.out | apply below_alloc | apply pw_below_drewN | apply below_drew1) | exact HB.out)⟩⟩
          case round =>
            clear H'
            try clear c1
            try clear p2
            try clear c5
            try clear c5b0
            try clear c5b1
            try clear c10
            try clear c10b0
            try clear c10b1
            try clear c11
            try clear p2
            obtain ⟨x7_2, x8_2, rfl, rfl, HA, HK2, HB⟩ := hrel
            cases gk with
            | zero => exact absurd HA.out (by simp [modular_probable.l0])
            | succ k2 =>
              have H := HA.out
              clear HA
              simp only [modular_probable.l0] at H
              by_cases c12 : x8_2 < a2
              · rw [if_pos c12] at H
                have c12b0 : decide (x8_2 < a2) = true := decide_eq_true c12
                clear c12
                replace H := Option.bind_eq_some_iff.mp H
                obtain ⟨t108, A130, H⟩ := H
                replace H : (if t108 = ((a0 - 1) % 4294967296) then (some true) else (modular_probable.l0 k2 a0 a2 t108 (wrap64 (x8_2 + 1)))) = some r := H
                have A13 := Aside0.mk A130
                clear A130
                by_cases c14 : t108 = ((a0 - 1) % 4294967296)
                · rw [if_pos c14] at H
                  have c14b0 : (t108 == ((a0 - 1) % 4294967296)) = true := beq_iff_eq.mpr c14
                  have c14b1 : (t108 != ((a0 - 1) % 4294967296)) = false := bne_eq_false_iff_eq.mpr c14
                  clear c14
                  obtain rfl := Option.some.inj H
                  go_wp2_with (first | ((with_reducible refine gate_callee (f := 17) rfl ?_); refine goesL_ (some 34) rfl rfl Tryd.func17 (by kernel_rfl) rfl #[.int .u32 x7_2, .int .u32 x7_2, .int .u32 a0] rfl (by (try simp only [List.map_toArray, List.map_cons, List.map_nil]); first | done | rfl | (simp only [List.length_drop, List.length_take]; rfl)) ?_; (with_reducible refine (modular_Mul.calls x7_2 x7_2 a0 t108 _ A13.out).mono ?_); rintro e w15 ⟨rfl, hb⟩; refine ⟨_, rfl, ?_⟩; have n0_ := Aside0.mk (below_step (by repeat (first | (with_reducible first | exact HB.out | apply below_alloc | apply pw_below_drewN | apply below_drew1) | exact HB.out)) hb); clear HB; have HB := n0_; clear n0_; (try clear hb); (try clear hb2); (try clear hk); (try clear hi)))
                  go_ret
                  exact ⟨by first | rfl | (simp [errW_none, errW_some] <;> rfl) | (simp only [← hji4, ← hji6]; first | rfl | (simp [errW_none, errW_some] <;> rfl)) | (simp [*, errW_none, errW_some] <;> rfl), by repeat (first | (with_reducible first | exact HB.out | apply below_alloc | apply pw_below_drewN | apply below_drew1) | exact HB.out)⟩
                · rw [if_neg c14] at H
                  have c14b0 : (t108 == ((a0 - 1) % 4294967296)) = false := beq_eq_false_iff_ne.mpr c14
                  have c14b1 : (t108 != ((a0 - 1) % 4294967296)) = true := bne_iff_ne.mpr c14
                  have H' := Aside0.mk H
                  clear H
                  go_wp2_with (first | ((with_reducible refine gate_callee (f := 17) rfl ?_); refine goesL_ (some 34) rfl rfl Tryd.func17 (by kernel_rfl) rfl #[.int .u32 x7_2, .int .u32 x7_2, .int .u32 a0] rfl (by (try simp only [List.map_toArray, List.map_cons, List.map_nil]); first | done | rfl | (simp only [List.length_drop, List.length_take]; rfl)) ?_; (with_reducible refine (modular_Mul.calls x7_2 x7_2 a0 t108 _ A13.out).mono ?_); rintro e w16 ⟨rfl, hb⟩; refine ⟨_, rfl, ?_⟩; have n0_ := Aside0.mk (below_step (by repeat (first | (with_reducible first | exact HB.out | apply below_alloc | apply pw_below_drewN | apply below_drew1) | exact HB.out)) hb); clear HB; have HB := n0_; clear n0_; (try clear hb); (try clear hb2); (try clear hk); (try clear hi)))
                  go_roundg k2
                  case measure => have := HJ7.out; have := HK2.out; omega
                  case rel => exact ⟨(t108), (wrap64 (x8_2 + 1)), (by first | rfl | (simp; done) | (simp [*]; done)), (by first | rfl | (simp; done) | (simp [*]; done)), H', ⟨by have := HJ7.out; have := HK2.out; omega⟩, ⟨by repeat (first | (with_reducible first | exact HB.out | apply below_alloc | apply pw_below_drewN | apply below_drew1) | exact HB.out)⟩⟩
              · rw [if_neg c12] at H
                have c12b0 : decide (x8_2 < a2) = false := decide_eq_false c12
                clear c12
                obtain rfl := Option.some.inj H
                go_wp2
                go_ret
                exact ⟨by first | rfl | (simp [errW_none, errW_some] <;> rfl) | (simp only [← hji4, ← hji6]; first | rfl | (simp [errW_none, errW_some] <;> rfl)) | (simp [*, errW_none, errW_some] <;> rfl), by repeat (first | (with_reducible first | exact HB.out | apply below_alloc | apply pw_below_drewN | apply below_drew1) | exact HB.out)⟩
  · rw [if_neg c5] at H
    exact absurd H (by simp)

-- NOT PRINTED: function 21 (modular_IsPrime)

-- NOT PRINTED: function 14 (cylinderlaw07_fit)

/-! ### cylinderref07_IsPrime: function 22 -/
def cylinderref07_IsPrime.l0 : Nat → Int → Int → Option (Bool)
  | 0, _, _ => none
  | k + 1, x0, x3 => if (IntKind.u64.wrap (x3 * x3)) ≤ (IntKind.u64.wrap (x0)) then (if x3 = 0 then (none) else (if (Int.tmod (IntKind.u64.wrap (x0)) x3) = 0 then (some false) else (cylinderref07_IsPrime.l0 k x0 (IntKind.u64.wrap (x3 + 1))))) else (some true)
def cylinderref07_IsPrime.f (k : Nat) (a0 : Int) : Option (Bool) := if a0 < 2 then (some false) else (cylinderref07_IsPrime.l0 k a0 2)
theorem cylinderref07_IsPrime.mono_l : ∀ k, (∀ y0 y1, LeO (cylinderref07_IsPrime.l0 k y0 y1) (cylinderref07_IsPrime.l0 (k + 1) y0 y1))
  | 0 => fun _ _ r h => by simp [cylinderref07_IsPrime.l0] at h
  | k + 1 => by
    have ih0 := cylinderref07_IsPrime.mono_l k
    · intro y0 y1
      unfold cylinderref07_IsPrime.l0
      repeat' first
      | (with_reducible exact ih0 _ _)
      | (with_reducible exact LeO.refl _)
      | (with_reducible exact LeO.none _)
      | (with_reducible refine LeO.ite ?_ ?_)
      | (with_reducible refine LeO.bind ?_ (fun _ => ?_))
      | exact ih0 _ _
      | exact LeO.none _
      | refine LeO.ite ?_ ?_
      | refine LeO.bind ?_ (fun _ => ?_)
theorem cylinderref07_IsPrime.mono : ∀ a0 k, LeO (cylinderref07_IsPrime.f k a0) (cylinderref07_IsPrime.f (k + 1) a0) := by
  intro a0 k
  have ih0 := cylinderref07_IsPrime.mono_l k
  unfold cylinderref07_IsPrime.f
  repeat' first
      | (with_reducible exact ih0 _ _)
      | (with_reducible exact LeO.refl _)
      | (with_reducible exact LeO.none _)
      | (with_reducible refine LeO.ite ?_ ?_)
      | (with_reducible refine LeO.bind ?_ (fun _ => ?_))
      | exact ih0 _ _
      | exact LeO.none _
      | refine LeO.ite ?_ ?_
      | refine LeO.bind ?_ (fun _ => ?_)
set_option maxHeartbeats 8000000 in
set_option maxRecDepth 100000 in
theorem cylinderref07_IsPrime.calls (k : Nat) (a0 : Int) (r : Bool) (w : World) (h : cylinderref07_IsPrime.f k a0 = some r) :
    Calls Tryd.prog 22 #[.int .u32 a0] w fun e w' => e = .returned (.bool r) ∧ Drawn0 w w' := by
  have H : (if a0 < 2 then (some false) else (cylinderref07_IsPrime.l0 k a0 2)) = some r := h
  clear h
  by_cases c2 : a0 < 2
  · rw [if_pos c2] at H
    have c2b0 : decide (a0 < 2) = true := decide_eq_true c2
    clear c2
    obtain rfl := Option.some.inj H
    go_enter Tryd.func22, Tryd.ntmps22
    go_wp2
    go_ret
    exact ⟨by first | rfl | (simp; done) | (simp [*]; done), by repeat (first | exact Drawn0.refl _ | apply Drawn0.step)⟩
  · rw [if_neg c2] at H
    have c2b0 : decide (a0 < 2) = false := decide_eq_false c2
    clear c2
    have H' := Aside0.mk H
    clear H
    go_enter Tryd.func22, Tryd.ntmps22
    go_wp2
    go_loopg [3] k (fun kq v3 w' => ∃ (x3_1 : Int), v3 = .int .u64 x3_1 ∧ Aside0 (cylinderref07_IsPrime.l0 kq a0 x3_1 = some r) ∧ Aside0 (kq ≤ k) ∧ Drawn0 w w')
    case atStart => exact ⟨(2), (by first | rfl | (simp; done) | (simp [*]; done)), H', ⟨Nat.le_refl _⟩, by repeat (first | exact Drawn0.refl _ | apply Drawn0.step)⟩
    case round =>
      clear H'
      try clear c2
      try clear c2b0
      try clear p2
      obtain ⟨x3_1, rfl, HA, HK1, ⟨m1, rfl⟩⟩ := hrel
      cases gk with
      | zero => exact absurd HA.out (by simp [cylinderref07_IsPrime.l0])
      | succ k1 =>
        have H := HA.out
        clear HA
        simp only [cylinderref07_IsPrime.l0] at H
        by_cases c3 : (IntKind.u64.wrap (x3_1 * x3_1)) ≤ (IntKind.u64.wrap (a0))
        · rw [if_pos c3] at H
          have c3b0 : decide ((IntKind.u64.wrap (x3_1 * x3_1)) ≤ (IntKind.u64.wrap (a0))) = true := decide_eq_true c3
          clear c3
          by_cases c4 : x3_1 = 0
          · rw [if_pos c4] at H
            exact absurd H (by simp)
          · rw [if_neg c4] at H
            have c4b0 : (x3_1 == 0) = false := beq_eq_false_iff_ne.mpr c4
            have c4b1 : (x3_1 != 0) = true := bne_iff_ne.mpr c4
            by_cases c5 : (Int.tmod (IntKind.u64.wrap (a0)) x3_1) = 0
            · rw [if_pos c5] at H
              have c5b0 : ((Int.tmod (IntKind.u64.wrap (a0)) x3_1) == 0) = true := beq_iff_eq.mpr c5
              have c5b1 : ((Int.tmod (IntKind.u64.wrap (a0)) x3_1) != 0) = false := bne_eq_false_iff_eq.mpr c5
              clear c5
              obtain rfl := Option.some.inj H
              go_wp2
              go_ret
              exact ⟨by first | rfl | (simp; done) | (simp [*]; done), by repeat (first | exact Drawn0.refl _ | apply Drawn0.step)⟩
            · rw [if_neg c5] at H
              have c5b0 : ((Int.tmod (IntKind.u64.wrap (a0)) x3_1) == 0) = false := beq_eq_false_iff_ne.mpr c5
              have c5b1 : ((Int.tmod (IntKind.u64.wrap (a0)) x3_1) != 0) = true := bne_iff_ne.mpr c5
              have H' := Aside0.mk H
              clear H
              go_wp2
              go_roundg k1
              case measure => have := HK1.out; omega
              case rel => exact ⟨(IntKind.u64.wrap (x3_1 + 1)), (by first | rfl | (simp; done) | (simp [*]; done)), H', ⟨by have := HK1.out; omega⟩, by repeat (first | exact Drawn0.refl _ | apply Drawn0.step)⟩
        · rw [if_neg c3] at H
          have c3b0 : decide ((IntKind.u64.wrap (x3_1 * x3_1)) ≤ (IntKind.u64.wrap (a0))) = false := decide_eq_false c3
          clear c3
          obtain rfl := Option.some.inj H
          go_wp2
          go_ret
          exact ⟨by first | rfl | (simp; done) | (simp [*]; done), by repeat (first | exact Drawn0.refl _ | apply Drawn0.step)⟩

-- NOT PRINTED: function 5 (cylinderlaw07_ModularPrime)

end Go.Proofs.YtgmooidagkbheaaDoor.PModularPrime
