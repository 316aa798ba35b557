/-
  What modular.IsPrime and the reference's IsPrime answer: whether the number is a prime.
-/
import Derived.Test.YtgmooidagkbheaaDoorIp
import Derived.Test.YtgmooidagkbheaaDoorMr5
import Derived.Test.YtgmooidagkbheaaDoorPModularPrimex1
namespace Go.Proofs.YtgmooidagkbheaaDoor
open Go.RowKit Go.Proofs.YtgmooidagkbheaaDoorW.PrintWords
open Mr (Pr Sp Pass)

theorem probL_iff (n : Nat) : ∀ (j x : Nat), probL n j x = true ↔ ∃ i, 1 ≤ i ∧ i ≤ j ∧ x ^ 2 ^ i % n = n - 1
  | 0, x => by
    simp only [probL, Bool.false_eq_true, false_iff]
    rintro ⟨i, h1, h2, _⟩
    omega
  | j + 1, x => by
    rw [probL_succ, Bool.or_eq_true, probL_iff n j, beq_iff_eq]
    have e : ∀ i, (x * x % n) ^ 2 ^ i % n = x ^ 2 ^ (i + 1) % n := by
      intro i
      rw [← Nat.pow_mod, ← Nat.pow_two, ← Nat.pow_mul, ← Nat.pow_succ']
    constructor
    · rintro (h | ⟨i, h1, h2, h3⟩)
      · exact ⟨1, by omega, by omega, by rw [Nat.pow_one, Nat.pow_two]; exact h⟩
      · exact ⟨i + 1, by omega, by omega, by rw [← e]; exact h3⟩
    · rintro ⟨i, h1, h2, h3⟩
      obtain ⟨i, rfl⟩ : ∃ i', i = i' + 1 := ⟨i - 1, by omega⟩
      rcases i with _ | i
      · left
        rw [Nat.pow_one, Nat.pow_two] at h3
        exact h3
      · exact .inr ⟨i + 1, by omega, by omega, by rw [e]; exact h3⟩

theorem prob_iff (n b s t : Nat) (hn : 2 ≤ n) (hs : 1 ≤ s) (he : n - 1 = 2 ^ s * t) : prob n b s = true ↔ Sp s t n b := by
  have hdiv : (n - 1) / 2 ^ s = t := by rw [he]; exact Nat.mul_div_cancel_left t (Nat.pow_pos (by omega))
  have e : ∀ i, (b ^ t % n) ^ 2 ^ i % n = b ^ (2 ^ i * t) % n := by
    intro i
    rw [← Nat.pow_mod, ← Nat.pow_mul, Nat.mul_comm]
  unfold prob Sp
  rw [hdiv, Bool.or_eq_true, Bool.or_eq_true, beq_iff_eq, beq_iff_eq, probL_iff, Nat.mod_eq_of_lt (by omega : 1 < n)]
  constructor
  · rintro ((h | h) | ⟨i, h1, h2, h3⟩)
    · exact .inl h
    · exact .inr ⟨0, by omega, by rw [Nat.pow_zero, Nat.one_mul]; exact h⟩
    · exact .inr ⟨i, by omega, by rw [← e]; exact h3⟩
  · rintro (h | ⟨i, h1, h2⟩)
    · exact .inl (.inl h)
    · rcases i with _ | i
      · rw [Nat.pow_zero, Nat.one_mul] at h2
        exact .inl (.inr h2)
      · exact .inr ⟨i + 1, by omega, by omega, by rw [e]; exact h2⟩

theorem ctz_split (m : Nat) (h0 : m ≠ 0) (h : m < 4294967296) : ∃ t, m = 2 ^ Lib.ctz 32 m * t ∧ t % 2 = 1 := by
  obtain ⟨k, hk, _⟩ := Lib.ctzFrom_spec 32 m (by omega) h
  have e : Lib.ctz 32 m = Lib.ctzFrom 32 m := by simp [Lib.ctz, h0]
  rw [e]
  exact ⟨2 * k + 1, hk, by omega⟩

/-- A prime passes the strong test to every base that it does not divide. -/
theorem prime_sp {p a : Nat} (hp : Pr p) (ha : ¬ p ∣ a) : ∀ (s t : Nat), p - 1 = 2 ^ s * t → Sp s t p a := by
  intro s t he
  have h2 := hp.two
  have h1 := Mr.fermat hp ha
  rw [he] at h1
  clear he
  have key : ∀ s, Mr.One p a (2 ^ s * t) → Sp s t p a := by
    intro s
    induction s with
    | zero =>
      intro h
      rw [Nat.pow_zero, Nat.one_mul] at h
      exact .inl h
    | succ s ih =>
      intro h
      have hx : (a ^ (2 ^ s * t)) * (a ^ (2 ^ s * t)) % p = 1 := by
        rw [← Nat.pow_two, ← Nat.pow_mul, ← Nat.mul_right_comm, ← Nat.pow_succ]
        unfold Mr.One at h
        rw [h, Nat.mod_eq_of_lt (by omega)]
      have hy : a ^ (2 ^ s * t) % p = 1 ∨ a ^ (2 ^ s * t) % p = p - 1 := by
        have hlt := Nat.mod_lt (a ^ (2 ^ s * t)) (show 0 < p by omega)
        rw [Nat.mul_mod] at hx
        generalize a ^ (2 ^ s * t) % p = y at *
        have h0 : y ≠ 0 := by
          intro e
          subst e
          simp at hx
        obtain ⟨z, rfl⟩ : ∃ z, y = z + 1 := ⟨y - 1, by omega⟩
        have hd : p ∣ z * (z + 2) := by
          have e1 : (z + 1) * (z + 1) = 1 + z * (z + 2) := by rw [Nat.add_mul, Nat.mul_add, Nat.mul_add z z 2]; omega
          have := Mr.dvd_of_mod_eq (p := p) (a := 1) (b := (z + 1) * (z + 1)) (by rw [e1]; omega) (by rw [hx, Nat.mod_eq_of_lt (by omega)])
          rw [e1] at this
          rw [show 1 + z * (z + 2) - 1 = z * (z + 2) from by omega] at this
          exact this
        rcases hp.dvd_mul hd with h | h
        · by_cases hz : z = 0
          · left; omega
          · have := Nat.le_of_dvd (by omega) h
            omega
        · have := Nat.le_of_dvd (by omega) h
          right; omega
      rcases hy with hy | hy
      · have h3 : Mr.One p a (2 ^ s * t) := by
          unfold Mr.One
          rw [hy, Nat.mod_eq_of_lt (by omega)]
        rcases ih h3 with h | ⟨i, hi, h⟩
        · exact .inl h
        · exact .inr ⟨i, by omega, h⟩
      · exact .inr ⟨s, by omega, hy⟩
  exact key s h1

theorem strong_iff (n : Nat) (h2 : 3 ≤ n) (hn : n < 4294967296) (hodd : n % 2 = 1) : strong n = true ↔ Pass n := by
  obtain ⟨t, he, ht⟩ := ctz_split (n - 1) (by omega) (by omega)
  have hs : 1 ≤ Lib.ctz 32 (n - 1) := by
    refine Nat.pos_of_ne_zero fun h0 => ?_
    rw [h0, Nat.pow_zero, Nat.one_mul] at he
    omega
  unfold strong
  rw [Bool.and_eq_true, Bool.and_eq_true, prob_iff n 2 _ t (by omega) hs he, prob_iff n 7 _ t (by omega) hs he, prob_iff n 61 _ t (by omega) hs he]
  generalize Lib.ctz 32 (n - 1) = s at *
  constructor
  · rintro ⟨a, b, c⟩
    exact ⟨by omega, s, t, he, ht, a, b, c⟩
  · rintro ⟨_, s', t', he', ht', a, b, c⟩
    have hst : s' = s ∧ t' = t := by
      have hd : 2 ^ s = 2 ^ s' := by
        have g1 := Mr.gcd_two_pow s t (s + s') ht (by omega)
        have g2 := Mr.gcd_two_pow s' t' (s + s') ht' (by omega)
        rw [← g1, ← g2, ← he, ← he']
      have hss : s = s' := by
        have := congrArg Nat.log2 hd
        rw [Nat.log2_two_pow, Nat.log2_two_pow] at this
        exact this
      subst hss
      rw [he] at he'
      exact ⟨rfl, (Nat.eq_of_mul_eq_mul_left (Nat.pow_pos (by omega)) he').symm⟩
    obtain ⟨rfl, rfl⟩ := hst
    exact ⟨a, b, c⟩

theorem pr_small {p : Nat} (h : p = 2 ∨ p = 3 ∨ p = 5 ∨ p = 7 ∨ p = 61) : Pr p := by
  rcases h with rfl | rfl | rfl | rfl | rfl <;> exact Mr.pr_of_small _ (by omega) (by decide)

/-- modular.IsPrime's answer. -/
theorem isPr_iff (n : Nat) (hn : n < 4294967296) : isPr n = true ↔ Pr n := by
  have small : ∀ p, (p = 2 ∨ p = 3 ∨ p = 5 ∨ p = 7 ∨ p = 61) → n % p = 0 → ((n == p) = true ↔ Pr n) := by
    intro p hp h0
    rw [beq_iff_eq]
    constructor
    · rintro rfl
      exact pr_small hp
    · intro h
      exact ((pr_small hp).eq_of_dvd h (Nat.dvd_of_mod_eq_zero h0)).symm
  unfold isPr
  split
  · simp only [Bool.false_eq_true, false_iff]
    intro h
    have := h.two
    omega
  split
  · exact small 2 (by omega) (by assumption)
  split
  · exact small 3 (by omega) (by assumption)
  split
  · exact small 5 (by omega) (by assumption)
  split
  · exact small 7 (by omega) (by assumption)
  split
  · exact small 61 (by omega) (by assumption)
  rename_i h1 h2 h3 h5 h7 h61
  rw [strong_iff n (by omega) hn (by omega)]
  constructor
  · intro h
    refine Mr.pass_prime n hn h fun q hq hd => ?_
    have nd : ∀ p, n % p ≠ 0 → q ≠ p := fun p hp e => by
      subst e
      exact hp (Nat.mod_eq_zero_of_dvd hd)
    have a2 := nd 2 h2
    have a3 := nd 3 h3
    have a5 := nd 5 h5
    have a7 := nd 7 h7
    refine ⟨?_, nd 61 h61⟩
    refine Decidable.byContradiction fun hlt => ?_
    have hm := Mr.prime_mem6 hq (by omega)
    simp [Mr.S6] at hm
    omega
  · intro h
    obtain ⟨t, he, ht⟩ := ctz_split (n - 1) (by omega) (by omega)
    have sp : ∀ a, (a = 2 ∨ a = 7 ∨ a = 61) → Sp (Lib.ctz 32 (n - 1)) t n a := by
      intro a ha
      refine prime_sp h (fun hd => ?_) _ _ he
      have hpa : Pr a := pr_small (by omega)
      have := h.eq_of_dvd hpa hd
      subst this
      rcases ha with rfl | rfl | rfl <;> simp at h2 h7 h61
    exact ⟨by omega, _, t, he, ht, sp 2 (by omega), sp 7 (by omega), sp 61 (by omega)⟩

/-! ### The reference's trial division -/
open PModularPrime
theorem ref_loop (n : Nat) (hn : n < 4294967296) (h2 : 2 ≤ n) : ∀ (c k d : Nat), 2 ≤ d → d + c = 65537 → c < k → (∀ e, 2 ≤ e → e < d → ¬ e ∣ n) →
    ∃ b, cylinderref07_IsPrime.l0 k (n : Int) (d : Int) = some b ∧ (b = true ↔ Pr n) := by
  intro c
  induction c with
  | zero =>
    intro k d hd hc hk hno
    obtain ⟨k, rfl⟩ : ∃ j, k = j + 1 := ⟨k - 1, by omega⟩
    obtain rfl : d = 65537 := by omega
    refine ⟨true, ?_, ⟨fun _ => Mr.prime_of_trial n h2 fun e he hee => hno e he ?_, fun _ => rfl⟩⟩
    · unfold cylinderref07_IsPrime.l0
      rw [wrap_u64_id (n : Int) (by omega) (by omega), wrap_u64_id _ (by omega) (by omega), if_neg (by omega)]
    · refine Decidable.byContradiction fun hlt => ?_
      have : 65537 * 65537 ≤ e * e := Nat.mul_le_mul (by omega) (by omega)
      omega
  | succ c ih =>
    intro k d hd hc hk hno
    obtain ⟨k, rfl⟩ : ∃ j, k = j + 1 := ⟨k - 1, by omega⟩
    have hdd : d * d ≤ 65536 * 65536 := Nat.mul_le_mul (by omega) (by omega)
    have e1 : (d : Int) * (d : Int) = ((d * d : Nat) : Int) := by push_cast; rfl
    unfold cylinderref07_IsPrime.l0
    rw [wrap_u64_id (n : Int) (by omega) (by omega), e1, wrap_u64_id ((d * d : Nat) : Int) (by omega) (by omega)]
    by_cases hle : d * d ≤ n
    · rw [if_pos (by omega), if_neg (by omega)]
      have e2 : Int.tmod (n : Int) (d : Int) = ((n % d : Nat) : Int) := by rw [Int.tmod_eq_emod_of_nonneg (by omega)]; push_cast; rfl
      rw [e2]
      by_cases h0 : n % d = 0
      · rw [if_pos (by omega)]
        refine ⟨false, rfl, ?_⟩
        simp only [Bool.false_eq_true, false_iff]
        intro hp
        rcases hp.2 d (Nat.dvd_of_mod_eq_zero h0) with h | h
        · omega
        · have : d * 2 ≤ d * d := Nat.mul_le_mul_left d hd
          omega
      · rw [if_neg (by omega), wrap_u64_id ((d : Int) + 1) (by omega) (by omega)]
        have := ih k (d + 1) (by omega) (by omega) (by omega) fun e he hlt hde => by
          rcases Nat.lt_or_ge e d with h | h
          · exact hno e he h hde
          · have : e = d := by omega
            subst this
            exact h0 (Nat.mod_eq_zero_of_dvd hde)
        exact this
    · rw [if_neg (by omega)]
      refine ⟨true, rfl, ⟨fun _ => Mr.prime_of_trial n h2 fun e he hee => hno e he ?_, fun _ => rfl⟩⟩
      refine Decidable.byContradiction fun hlt => ?_
      have : d * d ≤ e * e := Nat.mul_le_mul (by omega) (by omega)
      omega

theorem ref_is (n : Nat) (hn : n < 4294967296) : cylinderref07_IsPrime.f 70000 (n : Int) = some (isPr n) := by
  unfold cylinderref07_IsPrime.f
  by_cases h2 : n < 2
  · rw [if_pos (by omega)]
    unfold isPr
    rw [if_pos h2]
  · rw [if_neg (by omega)]
    obtain ⟨b, hb, hp⟩ := ref_loop n hn (by omega) 65535 70000 2 (by omega) (by omega) (by omega) (fun e h1 h2 => by omega)
    rw [show (2 : Int) = ((2 : Nat) : Int) from rfl, hb]
    congr 1
    rw [Bool.eq_iff_iff, hp, isPr_iff n hn]

theorem refprime_calls (n : Nat) (hn : n < 4294967296) (w : World) :
    Calls Tryd.prog 22 #[.int .u32 n] w fun e w' => e = .returned (.bool (isPr n)) ∧ Below w.heap.size w w' :=
  (cylinderref07_IsPrime.calls 70000 _ _ w (ref_is n hn)).mono fun _ _ h => ⟨h.1, h.2.below⟩

end Go.Proofs.YtgmooidagkbheaaDoor
