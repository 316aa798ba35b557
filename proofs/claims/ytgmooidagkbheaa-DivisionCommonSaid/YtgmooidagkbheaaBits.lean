/-
  math/bits: Add32, Sub32, Mul32, Div32 as numbers; each leaves the world alone (Div32 may draw).
-/
import Derived.Test.YtgmooidagkbheaaNv
namespace Go.Proofs.Ytgmooidagkbheaa
open Go.RowKit Go.Proofs.YtgmooidagkbheaaW.PrintWords
set_option linter.unusedVariables false

set_option maxHeartbeats 1000000 in
theorem add32_calls (x y c : Nat) (hx : x < 4294967296) (hy : y < 4294967296) (hc : c ≤ 1) (w : World) :
    Calls Try.prog 85 #[.int .u32 x, .int .u32 y, .int .u32 c] w fun e w' => e = .returned (.tuple #[.int .u32 (((x + y + c) % 4294967296 : Nat) : Int), .int .u32 (((x + y + c) / 4294967296 : Nat) : Int)]) ∧ w = w' := by
  have e1 : Hid (((x : Int) + y + c) % 4294967296 = (((x + y + c) % 4294967296 : Nat) : Int)) := Lib.hid (by omega)
  have e2 : Hid (((x : Int) + y + c) / 4294967296 = (((x + y + c) / 4294967296 : Nat) : Int)) := Lib.hid (by omega)
  go_enter Try.func85, Try.ntmps85
  go_wp2_with fail
  go_ret2
  exact ⟨by rw [← e1.out, ← e2.out]; rfl, rfl⟩

theorem mul32_bound (x y : Nat) (hx : x < 4294967296) (hy : y < 4294967296) : 0 ≤ (x : Int) * y ∧ (x : Int) * y ≤ 18446744065119617025 := by
  have h1 : x * y ≤ 4294967295 * 4294967295 := Nat.mul_le_mul (by omega) (by omega)
  have h2 : ((x * y : Nat) : Int) = (x : Int) * y := Int.natCast_mul x y
  omega

set_option maxHeartbeats 1000000 in
theorem mul32_calls (x y : Nat) (hx : x < 4294967296) (hy : y < 4294967296) (w : World) :
    Calls Try.prog 98 #[.int .u32 x, .int .u32 y] w fun e w' => e = .returned (.tuple #[.int .u32 ((x * y / 4294967296 : Nat) : Int), .int .u32 ((x * y % 4294967296 : Nat) : Int)]) ∧ w = w' := by
  obtain ⟨h0, h1⟩ := mul32_bound x y hx hy
  have h2 : ((x * y : Nat) : Int) = (x : Int) * y := Int.natCast_mul x y
  have e1 : Hid ((x : Int) * y / 4294967296 = ((x * y / 4294967296 : Nat) : Int)) := Lib.hid (by omega)
  have e2 : Hid ((x : Int) * y % 4294967296 = ((x * y % 4294967296 : Nat) : Int)) := Lib.hid (by omega)
  clear h2
  go_enter Try.func98, Try.ntmps98
  go_wp2_with fail
  go_ret2
  exact ⟨by rw [← e1.out, ← e2.out]; rfl, rfl⟩

theorem nat_bits (a b : Nat) (ha : a < 4294967296) (hb : b < 4294967296) :
    Go.bits .and .u32 (a : Int) (b : Int) = ((a &&& b : Nat) : Int) ∧ Go.bits .or .u32 (a : Int) (b : Int) = ((a ||| b : Nat) : Int) ∧ Go.bits .xor .u32 (a : Int) (b : Int) = ((a ^^^ b : Nat) : Int) := by
  have h1 : (BitVec.ofInt 32 (a : Int)).toNat = a := by
    rw [BitVec.ofInt_natCast, BitVec.toNat_ofNat]; exact Nat.mod_eq_of_lt (by omega)
  have h2 : (BitVec.ofInt 32 (b : Int)).toNat = b := by
    rw [BitVec.ofInt_natCast, BitVec.toNat_ofNat]; exact Nat.mod_eq_of_lt (by omega)
  have a1 : a &&& b < 2 ^ 32 := Nat.and_lt_two_pow _ (by omega)
  have a2 : a ||| b < 2 ^ 32 := Nat.or_lt_two_pow (by omega) (by omega)
  have a3 : a ^^^ b < 2 ^ 32 := Nat.xor_lt_two_pow (by omega) (by omega)
  have w : ∀ n : Nat, n < 2 ^ 32 → IntKind.u32.wrap (n : Int) = n := by
    intro n hn
    simp only [IntKind.wrap, IntKind.signed, IntKind.bits]
    simp
    omega
  refine ⟨?_, ?_, ?_⟩
  · show IntKind.u32.wrap ((BitVec.ofInt 32 (a : Int) &&& BitVec.ofInt 32 (b : Int)).toNat : Int) = _
    rw [BitVec.toNat_and, h1, h2, w _ a1]
  · show IntKind.u32.wrap ((BitVec.ofInt 32 (a : Int) ||| BitVec.ofInt 32 (b : Int)).toNat : Int) = _
    rw [BitVec.toNat_or, h1, h2, w _ a2]
  · show IntKind.u32.wrap ((BitVec.ofInt 32 (a : Int) ^^^ BitVec.ofInt 32 (b : Int)).toNat : Int) = _
    rw [BitVec.toNat_xor, h1, h2, w _ a3]

/-- The borrow. -/
def bor (x y b : Nat) : Nat := if x < y + b then 1 else 0
theorem bor_le (x y b : Nat) : bor x y b ≤ 1 := by unfold bor; split <;> omega

theorem top_bit (n : Nat) (h : n < 4294967296) : n / 2147483648 = if n.testBit 31 then 1 else 0 := by
  have h1 : n.testBit 31 = decide (n / 2 ^ 31 % 2 = 1) := Nat.testBit_eq_decide_div_mod_eq
  rw [h1]
  have : n / 2147483648 < 2 := by omega
  by_cases c : n / 2 ^ 31 % 2 = 1
  · rw [if_pos (by simpa using c)]; omega
  · rw [if_neg (by simpa using c)]; omega
theorem top_is (n : Nat) (h : n < 4294967296) : n.testBit 31 = decide (2147483648 ≤ n) := by
  have h1 : n.testBit 31 = decide (n / 2 ^ 31 % 2 = 1) := Nat.testBit_eq_decide_div_mod_eq
  rw [h1]
  congr 1
  apply propext
  omega

theorem sub32_carry (x y b d : Nat) (hx : x < 4294967296) (hy : y < 4294967296) (hb : b ≤ 1) (hd : d = (x + 4294967296 - y - b) % 4294967296) :
    Go.bits .or .u32 (Go.bits .and .u32 (Go.bits .xor .u32 IntKind.u32.max (x : Int)) (y : Int)) (Go.bits .and .u32 (Go.bits .xor .u32 IntKind.u32.max (Go.bits .xor .u32 (x : Int) (y : Int))) (d : Int)) / 2147483648 = ((bor x y b : Nat) : Int) := by
  have m : IntKind.u32.max = ((4294967295 : Nat) : Int) := rfl
  have hd' : d < 4294967296 := by omega
  have xl : ∀ p q : Nat, p < 4294967296 → q < 4294967296 → p ^^^ q < 4294967296 := fun p q hp hq => Nat.xor_lt_two_pow (n := 32) hp hq
  have al : ∀ p q : Nat, p < 4294967296 → q < 4294967296 → p &&& q < 4294967296 := fun p q _ hq => Nat.and_lt_two_pow (n := 32) _ hq
  have ol : ∀ p q : Nat, p < 4294967296 → q < 4294967296 → p ||| q < 4294967296 := fun p q hp hq => Nat.or_lt_two_pow (n := 32) hp hq
  have mm : (4294967295 : Nat) < 4294967296 := by omega
  rw [m, (nat_bits _ _ mm hx).2.2, (nat_bits _ _ (xl _ _ mm hx) hy).1, (nat_bits _ _ hx hy).2.2, (nat_bits _ _ mm (xl _ _ hx hy)).2.2, (nat_bits _ _ (xl _ _ mm (xl _ _ hx hy)) hd').1,
    (nat_bits _ _ (al _ _ (xl _ _ mm hx) hy) (al _ _ (xl _ _ mm (xl _ _ hx hy)) hd')).2.1]
  have t := top_bit _ (ol _ _ (al _ _ (xl _ _ mm hx) hy) (al _ _ (xl _ _ mm (xl _ _ hx hy)) hd'))
  rw [Nat.testBit_or, Nat.testBit_and, Nat.testBit_and, Nat.testBit_xor, Nat.testBit_xor, Nat.testBit_xor, top_is x hx, top_is y hy, top_is d hd', top_is 4294967295 mm] at t
  have key : ((4294967295 ^^^ x) &&& y ||| (4294967295 ^^^ (x ^^^ y)) &&& d) / 2147483648 = bor x y b := by
    rw [t]
    unfold bor
    have c0 : decide (2147483648 ≤ 4294967295) = true := by decide
    rw [c0]
    by_cases c1 : 2147483648 ≤ x <;> by_cases c2 : 2147483648 ≤ y <;> by_cases c3 : 2147483648 ≤ d <;> by_cases c4 : x < y + b <;> simp [c1, c2, c3, c4] <;> omega
  rw [← key]
  generalize ((4294967295 ^^^ x) &&& y ||| (4294967295 ^^^ (x ^^^ y)) &&& d) = N
  omega

set_option maxHeartbeats 1000000 in
theorem sub32_calls (x y b : Nat) (hx : x < 4294967296) (hy : y < 4294967296) (hb : b ≤ 1) (w : World) :
    Calls Try.prog 87 #[.int .u32 x, .int .u32 y, .int .u32 b] w fun e w' => e = .returned (.tuple #[.int .u32 (((x + 4294967296 - y - b) % 4294967296 : Nat) : Int), .int .u32 ((bor x y b : Nat) : Int)]) ∧ w = w' := by
  obtain ⟨d, ed⟩ : ∃ d, d = (x + 4294967296 - y - b) % 4294967296 := ⟨_, rfl⟩
  have HC := Lib.hid (sub32_carry x y b d hx hy hb ed)
  have e1 : Hid (((x : Int) - y - b) % 4294967296 = (d : Int)) := Lib.hid (by omega)
  rw [← ed]
  clear ed
  generalize bor x y b = r at *
  go_enter Try.func87, Try.ntmps87
  go_wp2_with fail
  go_ret2
  exact ⟨by rw [← HC.out, ← e1.out]; rfl, rfl⟩

theorem or_add (hi lo : Nat) (h : hi < 4294967296) (hlo : lo < 4294967296) : Go.bits .or .u64 ((hi : Int) * 4294967296) (lo : Int) = ((hi * 4294967296 + lo : Nat) : Int) := by
  have e : ((hi : Int) * 4294967296) = ((hi * 4294967296 : Nat) : Int) := by omega
  have h1 : (BitVec.ofInt 64 ((hi * 4294967296 : Nat) : Int)).toNat = hi * 4294967296 := by
    rw [BitVec.ofInt_natCast, BitVec.toNat_ofNat]; exact Nat.mod_eq_of_lt (by omega)
  have h2 : (BitVec.ofInt 64 (lo : Int)).toNat = lo := by
    rw [BitVec.ofInt_natCast, BitVec.toNat_ofNat]; exact Nat.mod_eq_of_lt (by omega)
  rw [e]
  show IntKind.u64.wrap ((BitVec.ofInt 64 ((hi * 4294967296 : Nat) : Int) ||| BitVec.ofInt 64 (lo : Int)).toNat : Int) = _
  rw [BitVec.toNat_or, h1, h2]
  have e3 : hi * 4294967296 ||| lo = hi * 4294967296 + lo := by
    have := Nat.shiftLeft_add_eq_or_of_lt (i := 32) (b := lo) (by omega) hi
    rw [Nat.shiftLeft_eq] at this
    exact this.symm
  rw [e3]
  simp only [IntKind.wrap, IntKind.signed, IntKind.bits]
  simp
  omega

set_option maxHeartbeats 1000000 in
theorem div32_calls (hi lo y : Nat) (hlo : lo < 4294967296) (hy : y < 4294967296) (h : hi < y) (w : World) :
    Calls Try.prog 96 #[.int .u32 hi, .int .u32 lo, .int .u32 y] w fun e w' => e = .returned (.tuple #[.int .u32 (((hi * 4294967296 + lo) / y : Nat) : Int), .int .u32 (((hi * 4294967296 + lo) % y : Nat) : Int)]) ∧ Below w.heap.size w w' := by
  have c1 : ((y : Int) != 0) = true := by simp; omega
  have c2 : decide (y ≤ hi) = false := by simp; omega
  have HO := Lib.hid (or_add hi lo (by omega) hlo)
  go_enter Try.func96, Try.ntmps96
  go_wp2_with fail
  rw [HO.out]
  have hq : (hi * 4294967296 + lo) / y < 4294967296 := by
    rw [Nat.div_lt_iff_lt_mul (by omega)]
    have : (hi + 1) * 4294967296 ≤ y * 4294967296 := Nat.mul_le_mul_right _ h
    have e := Nat.mul_comm y 4294967296
    omega
  have hr := Nat.mod_lt (hi * 4294967296 + lo) (show 0 < y by omega)
  have q1 : ((hi * 4294967296 + lo : Nat) : Int) / (y : Int) = (((hi * 4294967296 + lo) / y : Nat) : Int) := (Int.natCast_ediv _ _).symm
  have q2 : ((hi * 4294967296 + lo : Nat) : Int) % (y : Int) = (((hi * 4294967296 + lo) % y : Nat) : Int) := (Int.natCast_emod _ _).symm
  have hn : hi * 4294967296 + lo < 18446744073709551616 := by omega
  generalize hgn : hi * 4294967296 + lo = n at *
  generalize hgq : n / y = q at *
  generalize hgr : n % y = r at *
  have HN := Lib.hid hgn
  have HQ := Lib.hid hgq
  have HR := Lib.hid hgr
  clear hgn hgq hgr
  have t1 : Int.tdiv (n : Int) y = (q : Int) := by rw [Int.tdiv_eq_ediv_of_nonneg (by omega)]; exact q1
  have t2 : Int.tmod (n : Int) y = (r : Int) := by rw [Int.tmod_eq_emod_of_nonneg (by omega)]; exact q2
  have z1 : ((y : Int) == 0) = false := by simp; omega
  have s1 : (q : Int) % 4294967296 = q := by omega
  have s2 : (r : Int) % 4294967296 = r := by omega
  clear HO c2 hq hn hlo
  go_quiet (fail)
  go_wp2_with fail
  go_ret2
  exact ⟨by rw [HN.out, HQ.out, HR.out]; rfl, below_drewN (Below.refl _ _) _⟩

end Go.Proofs.Ytgmooidagkbheaa
