/-
  bits.Len32 and bits.LeadingZeros32.
-/
import Derived.Test.YtgmooidagkbheaaBits
import Derived.Lib.Tables
namespace Go.Proofs.Ytgmooidagkbheaa
open Go.RowKit Go.Proofs.YtgmooidagkbheaaW.PrintWords
set_option linter.unusedVariables false

/-- The number of binary digits. -/
def bl (n : Nat) : Nat := if n = 0 then 0 else Nat.log2 n + 1
theorem bl_zero : bl 0 = 0 := rfl
theorem bl_lt (n : Nat) : n < 2 ^ bl n := by
  unfold bl
  split
  · omega
  · exact Nat.lt_log2_self
theorem bl_le {n : Nat} (h : n ≠ 0) : 2 ^ (bl n - 1) ≤ n := by
  unfold bl
  rw [if_neg h]
  exact Nat.log2_self_le h
theorem bl_pos {n : Nat} (h : n ≠ 0) : 0 < bl n := by unfold bl; rw [if_neg h]; omega
theorem bl_le_iff (n k : Nat) : bl n ≤ k ↔ n < 2 ^ k := by
  unfold bl
  split
  · rename_i h
    subst h
    exact ⟨fun _ => Nat.two_pow_pos k, fun _ => Nat.zero_le _⟩
  · rename_i h
    rw [Nat.add_one_le_iff]
    exact Nat.log2_lt h
theorem bl_shift (n k : Nat) (h : 2 ^ k ≤ n) : bl n = k + bl (n / 2 ^ k) := by
  have hp := Nat.two_pow_pos k
  have hq : n / 2 ^ k ≠ 0 := by
    have := (Nat.le_div_iff_mul_le hp).2 (by rw [Nat.one_mul]; exact h : 1 * 2 ^ k ≤ n)
    omega
  apply Nat.le_antisymm
  · rw [bl_le_iff, Nat.pow_add, Nat.mul_comm, ← Nat.div_lt_iff_lt_mul hp]
    exact bl_lt _
  · have h1 := bl_le hq
    have h2 := bl_pos hq
    rcases Nat.lt_or_ge (bl n) (k + bl (n / 2 ^ k)) with h3 | h3
    · exfalso
      have h4 := (bl_le_iff n (k + bl (n / 2 ^ k) - 1)).1 (by omega)
      rw [show k + bl (n / 2 ^ k) - 1 = k + (bl (n / 2 ^ k) - 1) from by omega, Nat.pow_add, Nat.mul_comm, ← Nat.div_lt_iff_lt_mul hp] at h4
      omega
    · exact h3
theorem len8_all : ∀ i : Fin 256, Lib.len8 (i.1 : Int) = (bl i.1 : Int) := by decide +kernel

theorem len8_idx (i : Nat) (h : i < 256) (w : World) : (Instr.index 9 (.string Lib.len8tab) (.int .u8 (i : Int))).run Try.prog w = .ok (.int .u8 (bl i : Nat)) w := by
  rw [Lib.run_index_len8tab w _ _ _ Try.underlying9 (by omega) (by omega), len8_all ⟨i, h⟩]

set_option maxHeartbeats 4000000 in
set_option maxRecDepth 100000 in
theorem len32_core1 (n a b r : Nat) (w : World) (c1 : decide ((65536 : Int) ≤ (n : Int)) = true) (d1 : (n : Int) / 65536 = (a : Int)) (c2 : decide ((256 : Int) ≤ (a : Int)) = true) (d2 : (a : Int) / 256 = (b : Int)) (hb : b < 256) (d4 : (b : Int) % 256 = (b : Int)) (hr : wrap64 (24 + wrap64 (bl b : Nat)) = (r : Int)) :
    Calls Try.prog 97 #[.int .u32 n] w fun e w' => e = .returned (.int .i64 r) ∧ w = w' := by
  have hix := len8_idx b hb w
  have HR := Lib.hid hr
  clear hb hr
  generalize bl b = t at *
  go_enter Try.func97, Try.ntmps97
  go_wp2_with fail
  go_ret
  exact ⟨by rw [← HR.out]; rfl, rfl⟩

set_option maxHeartbeats 4000000 in
set_option maxRecDepth 100000 in
theorem len32_core2 (n a r : Nat) (w : World) (c1 : decide ((65536 : Int) ≤ (n : Int)) = true) (d1 : (n : Int) / 65536 = (a : Int)) (c2 : decide ((256 : Int) ≤ (a : Int)) = false) (hb : a < 256) (d4 : (a : Int) % 256 = (a : Int)) (hr : wrap64 (16 + wrap64 (bl a : Nat)) = (r : Int)) :
    Calls Try.prog 97 #[.int .u32 n] w fun e w' => e = .returned (.int .i64 r) ∧ w = w' := by
  have hix := len8_idx a hb w
  have HR := Lib.hid hr
  clear hb hr
  generalize bl a = t at *
  go_enter Try.func97, Try.ntmps97
  go_wp2_with fail
  go_ret
  exact ⟨by rw [← HR.out]; rfl, rfl⟩

set_option maxHeartbeats 4000000 in
set_option maxRecDepth 100000 in
theorem len32_core3 (n b r : Nat) (w : World) (c1 : decide ((65536 : Int) ≤ (n : Int)) = false) (c2 : decide ((256 : Int) ≤ (n : Int)) = true) (d2 : (n : Int) / 256 = (b : Int)) (hb : b < 256) (d4 : (b : Int) % 256 = (b : Int)) (hr : wrap64 (8 + wrap64 (bl b : Nat)) = (r : Int)) :
    Calls Try.prog 97 #[.int .u32 n] w fun e w' => e = .returned (.int .i64 r) ∧ w = w' := by
  have hix := len8_idx b hb w
  have HR := Lib.hid hr
  clear hb hr
  generalize bl b = t at *
  go_enter Try.func97, Try.ntmps97
  go_wp2_with fail
  go_ret
  exact ⟨by rw [← HR.out]; rfl, rfl⟩

set_option maxHeartbeats 4000000 in
set_option maxRecDepth 100000 in
theorem len32_core4 (n  r : Nat) (w : World) (c1 : decide ((65536 : Int) ≤ (n : Int)) = false) (c2 : decide ((256 : Int) ≤ (n : Int)) = false) (hb : n < 256) (d4 : (n : Int) % 256 = (n : Int)) (hr : wrap64 (wrap64 (bl n : Nat)) = (r : Int)) :
    Calls Try.prog 97 #[.int .u32 n] w fun e w' => e = .returned (.int .i64 r) ∧ w = w' := by
  have hix := len8_idx n hb w
  have HR := Lib.hid hr
  clear hb hr
  generalize bl n = t at *
  go_enter Try.func97, Try.ntmps97
  go_wp2_with fail
  go_ret
  exact ⟨by rw [← HR.out]; rfl, rfl⟩

theorem wrap64_nat (n : Nat) (h : n < 4294967296) : wrap64 (n : Int) = (n : Int) := by unfold wrap64; omega

theorem len32_calls (n : Nat) (hn : n < 4294967296) (w : World) :
    Calls Try.prog 97 #[.int .u32 n] w fun e w' => e = .returned (.int .i64 (bl n : Nat)) ∧ w = w' := by
  have small : ∀ m, m < 256 → bl m ≤ 8 := fun m h => (bl_le_iff m 8).2 h
  by_cases h1 : 65536 ≤ n
  · have e1 := bl_shift n 16 h1
    rw [show (2 : Nat) ^ 16 = 65536 from rfl] at e1
    by_cases h2 : 256 ≤ n / 65536
    · have e2 := bl_shift (n / 65536) 8 h2
      rw [show (2 : Nat) ^ 8 = 256 from rfl] at e2
      have hb : n / 65536 / 256 < 256 := by omega
      have := small _ hb
      exact len32_core1 n (n / 65536) (n / 65536 / 256) (bl n) w (decide_eq_true (by omega)) (by omega) (decide_eq_true (by omega)) (by omega) hb (by omega) (by rw [wrap64_nat _ (by omega)]; unfold wrap64; omega)
    · have hb : n / 65536 < 256 := by omega
      have := small _ hb
      exact len32_core2 n (n / 65536) (bl n) w (decide_eq_true (by omega)) (by omega) (decide_eq_false (by omega)) hb (by omega) (by rw [wrap64_nat _ (by omega)]; unfold wrap64; omega)
  · by_cases h2 : 256 ≤ n
    · have e2 := bl_shift n 8 h2
      rw [show (2 : Nat) ^ 8 = 256 from rfl] at e2
      have hb : n / 256 < 256 := by omega
      have := small _ hb
      exact len32_core3 n (n / 256) (bl n) w (decide_eq_false (by omega)) (decide_eq_true (by omega)) (by omega) hb (by omega) (by rw [wrap64_nat _ (by omega)]; unfold wrap64; omega)
    · have hb : n < 256 := by omega
      have := small _ hb
      exact len32_core4 n (bl n) w (decide_eq_false (by omega)) (decide_eq_false (by omega)) hb (by omega) (by rw [wrap64_nat (bl n) (by omega), wrap64_nat (bl n) (by omega)])

set_option maxHeartbeats 4000000 in
theorem lz32_calls (n : Nat) (hn : n < 4294967296) (w : World) :
    Calls Try.prog 73 #[.int .u32 n] w fun e w' => e = .returned (.int .i64 (32 - bl n : Nat)) ∧ w = w' := by
  have HL := Lib.hid (len32_calls n hn w)
  have hle : bl n ≤ 32 := (bl_le_iff n 32).2 hn
  obtain ⟨z, hz⟩ : ∃ z, 32 - bl n = z := ⟨_, rfl⟩
  have e1 : (32 : Int) - (bl n : Nat) = (z : Int) := by omega
  rw [hz]
  clear hz
  generalize bl n = b at *
  go_enter Try.func73, Try.ntmps73
  go_wp2_with fail
  refine (HL.out).mono ?_
  rintro e w1 ⟨rfl, rfl⟩
  go_wp2_with fail
  go_ret
  exact ⟨rfl, rfl⟩

end Go.Proofs.Ytgmooidagkbheaa
