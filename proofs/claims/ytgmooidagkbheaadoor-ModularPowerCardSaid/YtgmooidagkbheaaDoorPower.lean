/-
  cylinderlaw07.ModularPower returns true at every input: the walk, and the reference's power by repeated multiplication.
-/
import Derived.Test.YtgmooidagkbheaaDoorQu
import Derived.Test.YtgmooidagkbheaaDoorFit
import Derived.Test.YtgmooidagkbheaaDoorFrame
import Derived.Test.YtgmooidagkbheaaDoorPModularPowerx1
import Derived.Deep.QuietTactic
import Derived.BigQuiet
namespace Go.Proofs.YtgmooidagkbheaaDoor.power
open Go.ChangeShapes Go.WideShapes Go.ChangeAt Go.RowKit Go.Proofs.YtgmooidagkbheaaDoorW.PrintWords
open PModularPower
set_option linter.unusedVariables false

theorem refmodulus_is (m : Nat) (h : m < 4294967296) : cylinderref07_Modulus.f (m : Int) = some ((md m : Nat) : Int) := by
  unfold cylinderref07_Modulus.f md
  by_cases h0 : m = 0
  · subst h0; rfl
  · rw [if_neg (by omega), if_neg h0, wrap_u64_id _ (by omega) (by omega)]

theorem refpow_loop (a m n : Nat) (ha : a < 4294967296) (hm : m < 4294967296) (hn : n ≤ 255) : ∀ (d k i : Nat), i + d = n → d < k →
    cylinderref07_Power.l0 k (a : Int) (n : Int) ((md m : Nat) : Int) ((a ^ i % md m : Nat) : Int) (i : Int) = some ((a ^ n % md m : Nat) : Int) := by
  have hp := md_pos m
  have hl := md_le m hm
  intro d
  induction d with
  | zero =>
    intro k i hi hk
    obtain ⟨k, rfl⟩ : ∃ j, k = j + 1 := ⟨k - 1, by omega⟩
    unfold cylinderref07_Power.l0
    rw [if_neg (by omega)]
    have : i = n := by omega
    subst this
    have := Nat.mod_lt (a ^ i) hp
    congr 1
    omega
  | succ d ih =>
    intro k i hi hk
    obtain ⟨k, rfl⟩ : ∃ j, k = j + 1 := ⟨k - 1, by omega⟩
    unfold cylinderref07_Power.l0
    rw [if_pos (by omega), if_neg (by omega)]
    have e1 : wrap64 ((i : Int) + 1) = ((i + 1 : Nat) : Int) := by unfold wrap64; omega
    have h1 := Nat.mod_lt (a ^ i) hp
    have h2 := Nat.mod_lt a hp
    rw [wrap_u64_id (a : Int) (by omega) (by omega), Int.tmod_eq_emod_of_nonneg (by omega : (0 : Int) ≤ (a : Int))]
    have e2 : ((a : Int) % ((md m : Nat) : Int)) = ((a % md m : Nat) : Int) := by push_cast; rfl
    rw [e2]
    have e3 : (((a ^ i % md m : Nat) : Int) * ((a % md m : Nat) : Int)) = (((a ^ i % md m) * (a % md m) : Nat) : Int) := by push_cast; rfl
    have h3 := mul_lt_64 (a := a ^ i % md m) (b := a % md m) (by omega) (by omega)
    rw [e3, wrap_u64_id _ (by omega) (by omega), Int.tmod_eq_emod_of_nonneg (by omega)]
    have e4 : ((((a ^ i % md m) * (a % md m) : Nat) : Int) % ((md m : Nat) : Int)) = ((a ^ (i + 1) % md m : Nat) : Int) := by
      rw [Nat.pow_succ, Nat.mul_mod (a ^ i)]; push_cast; rfl
    rw [e4, e1]
    exact ih k (i + 1) (by omega) (by omega)

theorem refpow_is (a n m : Nat) (ha : a < 4294967296) (hm : m < 4294967296) (hn : n ≤ 255) : cylinderref07_Power.f 300 (a : Int) (n : Int) (m : Int) = some ((a ^ n % md m : Nat) : Int) := by
  have hp := md_pos m
  unfold cylinderref07_Power.f
  rw [refmodulus_is m hm]
  simp only [Option.bind_some]
  rw [if_neg (by omega)]
  have e : ((1 : Int) % ((md m : Nat) : Int)) = ((a ^ 0 % md m : Nat) : Int) := by rw [Nat.pow_zero]; push_cast; rfl
  rw [e]
  exact refpow_loop a m n ha hm hn n 300 0 (by omega) (by omega)

theorem refpow_calls (a n m : Nat) (ha : a < 4294967296) (hm : m < 4294967296) (hn : n ≤ 255) (w : World) :
    Calls Tryd.prog 16 #[.int .u32 a, .int .i64 n, .int .u32 m] w fun e w' => e = .returned (.int .u32 ((a ^ n % md m : Nat) : Int)) ∧ Below w.heap.size w w' :=
  (cylinderref07_Power.calls 300 _ _ _ _ w (refpow_is a n m ha hm hn)).mono fun _ _ h => ⟨h.1, h.2.below⟩

theorem and255 (n : Nat) (h : n < 18446744073709551616) : Go.bits .and .u64 (n : Int) 255 = ((n % 256 : Nat) : Int) := by
  have h1 : (BitVec.ofInt 64 (n : Int)).toNat = n := by
    rw [BitVec.ofInt_natCast, BitVec.toNat_ofNat]; exact Nat.mod_eq_of_lt (by omega)
  show IntKind.u64.wrap ((BitVec.ofInt 64 (n : Int) &&& BitVec.ofInt 64 255).toNat : Int) = _
  rw [BitVec.toNat_and, h1, show (BitVec.ofInt 64 255).toNat = 2 ^ 8 - 1 from rfl, Nat.and_two_pow_sub_one_eq_mod]
  exact wrap_u64_id _ (by omega) (by omega)

set_option maxHeartbeats 4000000 in
set_option maxRecDepth 100000 in
theorem walk (a m n0 n1 : Nat) (ha : a < 4294967296) (hm : m < 4294967296) (h0 : n0 < 18446744073709551616) (h1 : n1 < 18446744073709551616) (w : World) (hT : TzTab w) :
    Calls Tryd.prog 3 #[.int .u32 a, .int .u32 m, .agg #[.int .u64 n0, .int .u64 n1]] w fun e w' => e = .returned (.bool true) ∧ Below w.heap.size w w' := by
  have hba : Below w.heap.size w (w.alloc (Obj.cells #[.int .u64 n0, .int .u64 n1] 24)) := (Below.refl _ _).alloc (Nat.le_refl _) _
  have HF := Lib.hid (fit_calls _ (hT.below hba))
  have HB0 := Lib.hid hba
  clear hba hT
  have ha0 := Lib.hid (and255 n0 h0)
  have hp := md_pos m
  have hl := md_le m hm
  have hs : n0 % 256 ≤ 255 := by omega
  have HS1 := Lib.hid (fun w => pow_calls a (n0 % 256) m ha (by omega) hm w)
  have HS2 := Lib.hid (fun w => refpow_calls a (n0 % 256) m ha hm hs w)
  have hr1 := Nat.mod_lt (a ^ (n0 / 2)) hp
  have hr2 := Nat.mod_lt (a ^ (n1 / 2)) hp
  have HP0 := Lib.hid (fun w => pow_calls a (n0 / 2 + n1 / 2) m ha (by omega) hm w)
  have HP1 := Lib.hid (fun w => pow_calls a (n0 / 2) m ha (by omega) hm w)
  have HP2 := Lib.hid (fun w => pow_calls a (n1 / 2) m ha (by omega) hm w)
  have HP3 := Lib.hid (fun w => mul_calls (a ^ (n0 / 2) % md m) (a ^ (n1 / 2) % md m) m (by omega) (by omega) hm w)
  have HEQ : Hid (a ^ (n0 / 2 + n1 / 2) % md m = a ^ (n0 / 2) % md m * (a ^ (n1 / 2) % md m) % md m) := Lib.hid (by rw [Nat.pow_add, Nat.mul_mod])
  obtain ⟨x, ex⟩ : ∃ x, n0 / 2 = x := ⟨_, rfl⟩
  obtain ⟨y, ey⟩ : ∃ y, n1 / 2 = y := ⟨_, rfl⟩
  have HX : Hid ((n0 : Int) / 2 = (x : Int)) := Lib.hid (by omega)
  have HY : Hid ((n1 : Int) / 2 = (y : Int)) := Lib.hid (by omega)
  have hxl : x < 9223372036854775808 := by omega
  have hyl : y < 9223372036854775808 := by omega
  rw [ex] at HP0 HP1 HP3 HEQ hr1
  rw [ey] at HP0 HP2 HP3 HEQ hr2
  clear ex ey
  generalize a ^ (x + y) % md m = r0 at *
  generalize a ^ x % md m = r1 at *
  generalize a ^ y % md m = r2 at *
  generalize r1 * r2 % md m = r3 at *
  generalize a ^ (n0 % 256) % md m = r4 at *
  generalize n0 % 256 = s at *
  have HW1 : Hid (wrap64 (s : Int) = s) := Lib.hid (by unfold wrap64; omega)
  have HW2 : Hid (IntKind.u64.wrap (s : Int) = s) := Lib.hid (wrap_u64_id _ (by omega) (by omega))
  go_enter Tryd.func3, Tryd.ntmps3
  go_wp2_with fail
  refine (HF.out).mono ?_
  rintro e w1 ⟨rfl, hb1⟩
  have z : w.heap.size < w1.heap.size := by have := hb1.size; simp at this; omega
  have k0 : w1.cell? ⟨w.heap.size, 0, none⟩ = some (.int .u64 n0) := (hb1.cell (p := ⟨w.heap.size, 0, none⟩) (by simp)).trans (by go_simp)
  have k1 : w1.cell? ⟨w.heap.size, 1, none⟩ = some (.int .u64 n1) := (hb1.cell (p := ⟨w.heap.size, 1, none⟩) (by simp)).trans (by go_simp)
  have HB1 := Lib.hid (HB0.out.trans (hb1.mono HB0.out.size))
  clear hb1
  go_wp2_with fail
  rw [ha0.out, HW1.out, HW2.out]
  refine (HS1.out _).mono ?_
  rintro e w2 ⟨rfl, hb2⟩
  have z2 : w.heap.size < w2.heap.size := by have := hb2.size; omega
  have j0 : w2.cell? ⟨w.heap.size, 0, none⟩ = some (.int .u64 n0) := (hb2.cell (p := ⟨w.heap.size, 0, none⟩) (by simp; omega)).trans k0
  have j1 : w2.cell? ⟨w.heap.size, 1, none⟩ = some (.int .u64 n1) := (hb2.cell (p := ⟨w.heap.size, 1, none⟩) (by simp; omega)).trans k1
  have HB2 := Lib.hid (HB1.out.trans (hb2.mono HB1.out.size))
  clear hb2 k0 k1 z HB1 HB0
  go_wp2_with fail
  refine (HS2.out _).mono ?_
  rintro e w3 ⟨rfl, hb3⟩
  have z3 : w.heap.size < w3.heap.size := by have := hb3.size; omega
  have i0 : w3.cell? ⟨w.heap.size, 0, none⟩ = some (.int .u64 n0) := (hb3.cell (p := ⟨w.heap.size, 0, none⟩) (by simp; omega)).trans j0
  have i1 : w3.cell? ⟨w.heap.size, 1, none⟩ = some (.int .u64 n1) := (hb3.cell (p := ⟨w.heap.size, 1, none⟩) (by simp; omega)).trans j1
  have HB3 := Lib.hid (HB2.out.trans (hb3.mono HB2.out.size))
  clear hb3 j0 j1 z2 HB2
  go_wp2_with fail
  go_quiet (fail)
  rw [HX.out, HY.out]
  generalize hW : World.drewN _ _ = W
  have HB4 : Hid (Below w.heap.size w W) := Lib.hid (by subst hW; exact below_drewN HB3.out _)
  clear hW i0 i1
  go_wp2_with fail
  rw [show ((x : Int) + (y : Int)) = ((x + y : Nat) : Int) from by omega]
  refine (HP0.out _).mono ?_
  rintro e w5 ⟨rfl, hb5⟩
  have HB5 := Lib.hid (HB4.out.trans (hb5.mono HB4.out.size))
  clear hb5
  go_wp2_with fail
  refine (HP1.out _).mono ?_
  rintro e w6 ⟨rfl, hb6⟩
  have HB6 := Lib.hid (HB5.out.trans (hb6.mono HB5.out.size))
  clear hb6
  go_wp2_with fail
  refine (HP2.out _).mono ?_
  rintro e w7 ⟨rfl, hb7⟩
  have HB7 := Lib.hid (HB6.out.trans (hb7.mono HB6.out.size))
  clear hb7
  go_wp2_with fail
  refine (HP3.out _).mono ?_
  rintro e w8 ⟨rfl, hb8⟩
  have HB8 := Lib.hid (HB7.out.trans (hb8.mono HB7.out.size))
  clear hb8
  obtain rfl : r0 = r3 := HEQ.out
  go_wp2_with fail
  go_ret
  exact ⟨by simp, HB8.out⟩

end Go.Proofs.YtgmooidagkbheaaDoor.power
