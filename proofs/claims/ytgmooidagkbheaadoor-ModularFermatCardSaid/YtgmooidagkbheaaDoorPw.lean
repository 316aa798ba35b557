/-
  The printed functions modular.modulus, Mul and Pow answer as numbers do: products and powers, reduced.
-/
import Derived.Test.YtgmooidagkbheaaDoorPModularInversex1
namespace Go.Proofs.YtgmooidagkbheaaDoor
open Go.RowKit Go.Proofs.YtgmooidagkbheaaDoorW.PrintWords
open PModularInverse

/-- The modulus: 0 counts as 1. -/
def md (m : Nat) : Nat := if m = 0 then 1 else m
theorem md_pos (m : Nat) : 0 < md m := by unfold md; split <;> omega
theorem md_le (m : Nat) (h : m < 4294967296) : md m < 4294967296 := by unfold md; split <;> omega

theorem wrap_u64_id (n : Int) (h : 0 ≤ n) (h1 : n < 18446744073709551616) : IntKind.u64.wrap n = n := by
  simp only [IntKind.wrap, IntKind.signed, IntKind.bits]
  simp
  omega

theorem modulus_is (m : Nat) (h : m < 4294967296) : modular_modulus.f (m : Int) = some ((md m : Nat) : Int) := by
  unfold modular_modulus.f mx
  congr 1
  unfold md
  split
  · rename_i h1
    have : m = 0 := by omega
    subst this
    simp [IntKind.wrap, IntKind.signed, IntKind.bits]
  · rename_i h1
    rw [if_neg (by omega)]
    exact wrap_u64_id _ (by omega) (by omega)

theorem mul_lt_64 {a b : Nat} (ha : a < 4294967296) (hb : b < 4294967296) : a * b < 18446744073709551616 := by
  have h1 : a * b ≤ 4294967295 * 4294967295 := Nat.mul_le_mul (by omega) (by omega)
  omega

theorem mul_is (a b m : Nat) (ha : a < 4294967296) (hb : b < 4294967296) (hm : m < 4294967296) :
    modular_Mul.f (a : Int) (b : Int) (m : Int) = some ((a * b % md m : Nat) : Int) := by
  unfold modular_Mul.f
  rw [modulus_is m hm]
  simp only [Option.bind_some]
  have hp := md_pos m
  have hl := md_le m hm
  rw [if_neg (by omega)]
  congr 1
  rw [wrap_u64_id (a : Int) (by omega) (by omega), wrap_u64_id (b : Int) (by omega) (by omega)]
  have hab := mul_lt_64 ha hb
  have e : ((a : Int) * (b : Int)) = ((a * b : Nat) : Int) := by push_cast; rfl
  rw [e, wrap_u64_id _ (by omega) (by omega)]
  rw [show (((a * b : Nat) : Int).tmod ((md m : Nat) : Int)) = ((a * b % md m : Nat) : Int) from by rw [Int.tmod_eq_emod_of_nonneg (by omega)]; push_cast; rfl]
  have := Nat.mod_lt (a * b) hp
  omega

theorem bits_and_one (n : Nat) (h : n < 18446744073709551616) : Go.bits .and .u64 (n : Int) 1 = ((n % 2 : Nat) : Int) := by
  have h1 : (BitVec.ofInt 64 (n : Int)).toNat = n := by
    rw [BitVec.ofInt_natCast, BitVec.toNat_ofNat]; exact Nat.mod_eq_of_lt (by omega)
  show IntKind.u64.wrap ((BitVec.ofInt 64 (n : Int) &&& BitVec.ofInt 64 1).toNat : Int) = _
  rw [BitVec.toNat_and, h1, show (BitVec.ofInt 64 1).toNat = 1 from rfl, Nat.and_one_is_mod]
  exact wrap_u64_id _ (by omega) (by omega)

/-- Rounds of Pow: with enough of them the loop answers r * a^n. -/
theorem pow_loop (m : Nat) (hm : m < 4294967296) : ∀ (k n a r : Nat), n < 2 ^ k → k ≤ 64 → a < 4294967296 → r < 4294967296 → (r % md m = r) →
    modular_Pow.l0 (k + 1) (a : Int) (n : Int) (m : Int) (r : Int) = some ((r * a ^ n % md m : Nat) : Int) := by
  intro k
  induction k with
  | zero =>
    intro n a r hn _ ha hr hrm
    have : n = 0 := by omega
    subst this
    unfold modular_Pow.l0
    rw [if_neg (by omega)]
    simp [hrm]
  | succ k ih =>
    intro n a r hn hk ha hr hrm
    have hn64 : n < 18446744073709551616 := by
      have : 2 ^ (k + 1) ≤ 2 ^ 64 := Nat.pow_le_pow_right (by omega) (by omega)
      omega
    unfold modular_Pow.l0
    by_cases h0 : n = 0
    · subst h0
      rw [if_neg (by omega)]
      simp [hrm]
    · rw [if_pos (by omega), bits_and_one n hn64]
      have hp := md_pos m
      have hl := md_le m hm
      have hm1 := Nat.mod_lt (a * a) hp
      have hm2 := Nat.mod_lt (r * a) hp
      have hd : ((n : Int) / 2) = ((n / 2 : Nat) : Int) := by omega
      have hpow : a ^ n = (a * a) ^ (n / 2) * a ^ (n % 2) := by
        rw [← Nat.pow_two, ← Nat.pow_mul, ← Nat.pow_add, Nat.div_add_mod]
      have hn2 : n / 2 < 2 ^ k := by rw [Nat.pow_succ] at hn; omega
      by_cases h1 : n % 2 = 0
      · rw [if_pos (by omega), mul_is a a m ha ha hm]
        simp only [Option.bind_some]
        rw [hd, ih _ _ _ hn2 (by omega) (by omega) hr hrm]
        congr 2
        rw [hpow, h1, Nat.pow_zero, Nat.mul_one, Nat.mul_mod, ← Nat.pow_mod, ← Nat.mul_mod]
      · have h1' : n % 2 = 1 := by omega
        rw [if_neg (by omega), mul_is r a m hr ha hm]
        simp only [Option.bind_some]
        rw [mul_is a a m ha ha hm]
        simp only [Option.bind_some]
        rw [hd, ih _ _ _ hn2 (by omega) (by omega) (by omega) (Nat.mod_mod _ _)]
        congr 2
        rw [hpow, h1', Nat.pow_one, Nat.mul_mod, Nat.mod_mod, ← Nat.pow_mod, ← Nat.mul_mod]
        congr 1
        rw [Nat.mul_comm ((a * a) ^ (n / 2)) a, Nat.mul_assoc]

theorem pow_is (a n m : Nat) (ha : a < 4294967296) (hn : n < 18446744073709551616) (hm : m < 4294967296) :
    modular_Pow.f 65 (a : Int) (n : Int) (m : Int) = some ((a ^ n % md m : Nat) : Int) := by
  unfold modular_Pow.f
  rw [modulus_is m hm]
  simp only [Option.bind_some]
  have hp := md_pos m
  have hl := md_le m hm
  rw [if_neg (by omega)]
  have hm1 := Nat.mod_lt 1 hp
  have e : (((1 : Int) % ((md m : Nat) : Int)) % 4294967296) = ((1 % md m : Nat) : Int) := by
    have : ((1 : Int) % ((md m : Nat) : Int)) = ((1 % md m : Nat) : Int) := by push_cast; rfl
    rw [this]
    omega
  rw [e, pow_loop m hm 64 n a (1 % md m) (by omega) (by omega) ha (by omega) (Nat.mod_mod _ _)]
  congr 2
  rw [Nat.mul_mod, Nat.mod_mod, ← Nat.mul_mod, Nat.one_mul]

theorem mul_calls (a b m : Nat) (ha : a < 4294967296) (hb : b < 4294967296) (hm : m < 4294967296) (w : World) :
    Calls Tryd.prog 17 #[.int .u32 a, .int .u32 b, .int .u32 m] w fun e w' => e = .returned (.int .u32 ((a * b % md m : Nat) : Int)) ∧ Below w.heap.size w w' :=
  modular_Mul.calls _ _ _ _ w (mul_is a b m ha hb hm)

theorem pow_calls (a n m : Nat) (ha : a < 4294967296) (hn : n < 18446744073709551616) (hm : m < 4294967296) (w : World) :
    Calls Tryd.prog 15 #[.int .u32 a, .int .u64 n, .int .u32 m] w fun e w' => e = .returned (.int .u32 ((a ^ n % md m : Nat) : Int)) ∧ Below w.heap.size w w' :=
  modular_Pow.calls 65 _ _ _ _ w (pow_is a n m ha hn hm)

end Go.Proofs.YtgmooidagkbheaaDoor
