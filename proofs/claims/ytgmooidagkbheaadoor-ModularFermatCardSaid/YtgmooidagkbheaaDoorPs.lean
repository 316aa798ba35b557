/-
  modular.Pow leaves the world as it is.
-/
import Derived.Test.YtgmooidagkbheaaDoorQu
namespace Go.Proofs.YtgmooidagkbheaaDoor
open Go.RowKit Go.Proofs.YtgmooidagkbheaaDoorW.PrintWords
set_option linter.unusedVariables false

theorem pow_even (a n r M : Nat) (h : n % 2 = 0) : r * (a * a % M) ^ (n / 2) % M = r * a ^ n % M := by
  have hpow : a ^ n = (a * a) ^ (n / 2) := by
    rw [← Nat.pow_two, ← Nat.pow_mul]
    congr 1
    omega
  rw [hpow, Nat.mul_mod, ← Nat.pow_mod, ← Nat.mul_mod]
theorem pow_odd (a n r M : Nat) (h : n % 2 = 1) : (r * a % M) * (a * a % M) ^ (n / 2) % M = r * a ^ n % M := by
  have hpow : a ^ n = a * (a * a) ^ (n / 2) := by
    rw [← Nat.pow_two, ← Nat.pow_mul, ← Nat.pow_succ']
    congr 1
    omega
  rw [hpow, Nat.mul_mod, Nat.mod_mod, ← Nat.pow_mod, ← Nat.mul_mod, Nat.mul_assoc]

set_option maxHeartbeats 4000000 in
set_option maxRecDepth 100000 in
theorem pow_same (A N m : Nat) (ha : A < 4294967296) (hn : N < 18446744073709551616) (hm : m < 4294967296) (w : World) :
    Calls Tryd.prog 15 #[.int .u32 A, .int .u64 N, .int .u32 m] w fun e w' => e = .returned (.int .u32 ((A ^ N % md m : Nat) : Int)) ∧ w = w' := by
  have hp := md_pos m
  have hl := md_le m hm
  have HM := Lib.hid (modulus_same m hm w)
  have HMU := Lib.hid (fun a b (x : a < 4294967296) (y : b < 4294967296) => mul_same a b m x y hm w)
  have HR : Hid ((1 : Int) % ((md m : Nat) : Int) % 4294967296 = ((1 % md m : Nat) : Int)) := Lib.hid (by
    have hr := Nat.mod_lt 1 hp
    have e : ((1 : Int) % ((md m : Nat) : Int)) = ((1 % md m : Nat) : Int) := by push_cast; rfl
    rw [e]; omega)
  have h1 : 1 ≤ ((md m : Nat) : Int) := by omega
  have HI : Hid ((1 % md m) * A ^ N % md m = A ^ N % md m) := Lib.hid (by rw [Nat.mul_mod, Nat.mod_mod, ← Nat.mul_mod, Nat.one_mul])
  have HQ : Hid (1 % md m < md m) := Lib.hid (Nat.mod_lt 1 hp)
  have HP := Lib.hid hp
  have HL := Lib.hid hl
  have HA := Lib.hid ha
  have HN := Lib.hid hn
  clear hp hl ha hn hm
  generalize md m = M at *
  generalize hT : A ^ N % M = T at *
  have HT := Lib.hid hT
  clear hT
  generalize hO : 1 % M = one at *
  clear hO
  go_enter Tryd.func15, Tryd.ntmps15
  go_wp2_with fail
  refine (HM.out).mono ?_
  rintro e w1 ⟨rfl, rfl⟩
  go_wp2_with fail
  rw [HR.out]
  go_loopw [0, 1, 7] (fun x y z wr => ∃ a n r : Nat, x = .int .u32 a ∧ y = .int .u64 n ∧ z = .int .u32 r ∧ Hid (a < 4294967296) ∧ Hid (n < 18446744073709551616) ∧ Hid (r < M) ∧ Hid (r * a ^ n % M = T) ∧ w = wr) (fun x y z wr => (intOf y).toNat)
  case atStart => exact ⟨A, N, one, rfl, rfl, rfl, HA, HN, HQ, HI, rfl⟩
  case round =>
    clear HI HQ HA HN
    obtain ⟨a, n, r, rfl, rfl, rfl, HA, HN, HQ, HI, rfl⟩ := hrel
    have HHL : Hid (r < 4294967296) := Lib.hid (by have := HQ.out; have := HL.out; omega)
    by_cases h0 : n = 0
    · subst h0
      have HE : Hid (r = T) := Lib.hid (by have := HI.out; rw [Nat.pow_zero, Nat.mul_one, Nat.mod_eq_of_lt HQ.out] at this; exact this)
      go_wp2_with fail
      go_ret
      exact ⟨by rw [HE.out]; rfl, rfl⟩
    · have c0 : 0 < n := by omega
      have HC := Lib.hid (HMU.out a a HA.out HA.out)
      have HAA : Hid (a * a % M < 4294967296) := Lib.hid (by have := Nat.mod_lt (a * a) HP.out; have := HL.out; omega)
      have HN2 : Hid (n / 2 < 18446744073709551616) := Lib.hid (by have := HN.out; omega)
      rcases Nat.mod_two_eq_zero_or_one n with h2 | h2
      · have b0 : Go.bits .and .u64 (n : Int) 1 = 0 := by rw [bits_and_one n HN.out, h2]; rfl
        have HI2 : Hid (r * (a * a % M) ^ (n / 2) % M = T) := Lib.hid (by rw [pow_even a n r M h2]; exact HI.out)
        clear h2 h0
        go_wp2_with fail
        refine (HC.out).mono ?_
        rintro e w1 ⟨rfl, rfl⟩
        go_wp2_with fail
        go_roundw
        case rel => exact ⟨_, n / 2, r, rfl, by go_num, rfl, HAA, HN2, HQ, HI2, trivial⟩
        case measure => simp [intOf]; omega
      · have b0 : Go.bits .and .u64 (n : Int) 1 = 1 := by rw [bits_and_one n HN.out, h2]; rfl
        have HI2 : Hid ((r * a % M) * (a * a % M) ^ (n / 2) % M = T) := Lib.hid (by rw [pow_odd a n r M h2]; exact HI.out)
        have HC2 := Lib.hid (HMU.out r a HHL.out HA.out)
        have HQ2 : Hid (r * a % M < M) := Lib.hid (Nat.mod_lt _ HP.out)
        clear h2 h0
        go_wp2_with fail
        refine (HC2.out).mono ?_
        rintro e w1 ⟨rfl, rfl⟩
        go_wp2_with fail
        refine (HC.out).mono ?_
        rintro e w1 ⟨rfl, rfl⟩
        go_wp2_with fail
        go_roundw
        case rel => exact ⟨_, n / 2, _, rfl, by go_num, rfl, HAA, HN2, HQ2, HI2, trivial⟩
        case measure => simp [intOf]; omega

end Go.Proofs.YtgmooidagkbheaaDoor
