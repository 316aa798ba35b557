/-
  What the kernel's tests over the table say: each function of the search, brought back to numbers. No program in sight.
-/
import Derived.Test.YtgmooidagkbheaaDoorMr1
namespace Mr

theorem bi_true {c t e : Bool} (h : bi c t e = true) : (c = true ∧ t = true) ∨ (c = false ∧ e = true) := by
  cases c
  · exact .inr ⟨rfl, h⟩
  · exact .inl ⟨rfl, h⟩
theorem fc_eq (x : Nat) (f : Nat → Bool) : fc x f = f x := by cases x <;> rfl
theorem lp_all {f : Nat → Bool} {s : Nat} : ∀ (k a : Nat), lp f s k a = true → ∀ j, j < 2 ^ k → f (a + s * j) = true
  | 0, a, h, j, hj => by
    have : j = 0 := by simpa using hj
    subst this
    exact h
  | k + 1, a, h, j, hj => by
    have h' : (Bool.rec (motive := fun _ => Bool) false (lp f s k (a + s * 2 ^ k)) (lp f s k a)) = true := h
    cases h1 : lp f s k a with
    | false => rw [h1] at h'; cases h'
    | true =>
      rw [h1] at h'
      rcases Nat.lt_or_ge j (2 ^ k) with hlt | hge
      · exact lp_all k a h1 j hlt
      · have h2 := lp_all k (a + s * 2 ^ k) h' (j - 2 ^ k) (by rw [Nat.pow_succ] at hj; omega)
        rw [Nat.add_assoc, ← Nat.mul_add, show 2 ^ k + (j - 2 ^ k) = j from by omega] at h2
        exact h2
theorem lq_all {f : Nat → Bool} : ∀ (c : Nat), lq f c = true → ∀ j, j < c → f j = true
  | 0, _, j, hj => by omega
  | c + 1, h, j, hj => by
    have h' : (Bool.rec (motive := fun _ => Bool) false (lq f c) (f c)) = true := h
    cases h1 : f c with
    | false => rw [h1] at h'; cases h'
    | true =>
      rw [h1] at h'
      by_cases e : j = c
      · rw [e]; exact h1
      · exact lq_all c h' j (by omega)
theorem la_all {f : Nat → Bool} : ∀ (l : List Nat), la f l = true → ∀ x ∈ l, f x = true
  | [], _, x, hx => by cases hx
  | y :: l, h, x, hx => by
    have h' : (Bool.rec (motive := fun _ => Bool) false (la f l) (f y)) = true := h
    cases h1 : f y with
    | false => rw [h1] at h'; cases h'
    | true =>
      rw [h1] at h'
      rcases List.mem_cons.1 hx with e | e
      · rw [e]; exact h1
      · exact la_all l h' x e

/-! ### Powers -/
theorem st_eq (n a x e : Nat) (h : x = a ^ (e / 256) % n) : st n a x e = a ^ e % n := by
  show (x ^ 256 * a ^ (e % 256)) % n = _
  rw [h, Nat.mul_mod, ← Nat.pow_mod, ← Nat.mul_mod, ← Nat.pow_mul, ← Nat.pow_add]
  congr 2
  omega
theorem f16_eq (n a e : Nat) : f16 n a e = a ^ e % n := by
  unfold f16
  refine st_eq _ _ _ _ ?_
  show a ^ (e >>> 8) % n = _
  rw [Nat.shiftRight_eq_div_pow]
theorem f32_eq (n a e : Nat) : f32 n a e = a ^ e % n := by
  unfold f32
  have e1 : Nat.shiftRight e 8 = e / 256 := by show e >>> 8 = _; rw [Nat.shiftRight_eq_div_pow]
  have e2 : Nat.shiftRight e 16 = e / 65536 := by show e >>> 16 = _; rw [Nat.shiftRight_eq_div_pow]
  have e3 : Nat.shiftRight e 24 = e / 16777216 := by show e >>> 24 = _; rw [Nat.shiftRight_eq_div_pow]
  rw [e1, e2, e3]
  refine st_eq _ _ _ _ (st_eq _ _ _ _ ?_)
  rw [Nat.div_div_eq_div_mul]
  refine st_eq _ _ _ _ ?_
  show a ^ (e / 16777216) % n = _
  rw [Nat.div_div_eq_div_mul]

/-! ### Two-adic -/
theorem two_split : ∀ m, 0 < m → ∃ e u, m = 2 ^ e * u ∧ u % 2 = 1 := by
  intro m
  induction m using Nat.strongRecOn with
  | _ m ih =>
    intro h
    by_cases h1 : m % 2 = 1
    · exact ⟨0, m, by simp, h1⟩
    · obtain ⟨e, u, he, hu⟩ := ih (m / 2) (by omega) (by omega)
      exact ⟨e + 1, u, by rw [Nat.pow_succ, Nat.mul_right_comm, ← he]; omega, hu⟩
theorem odd_coprime_two_pow (u : Nat) (h : u % 2 = 1) : ∀ k, Nat.gcd u (2 ^ k) = 1
  | 0 => by simp
  | k + 1 => by
    rw [Nat.pow_succ]
    have h2 : Nat.Coprime u 2 := by
      rcases (Nat.dvd_prime_two (Nat.gcd_dvd_right u 2)) with h' | h'
      · exact h'
      · exfalso
        have := h' ▸ Nat.gcd_dvd_left u 2
        omega
    exact Nat.Coprime.mul_right (show Nat.Coprime u (2 ^ k) from odd_coprime_two_pow u h k) h2
where
  Nat.dvd_prime_two {d : Nat} (h : d ∣ 2) : d = 1 ∨ d = 2 := by
    have := Nat.le_of_dvd (by omega) h
    have h0 : d ≠ 0 := by intro e; subst e; simp at h
    omega
theorem gcd_two_pow (e u k : Nat) (h : u % 2 = 1) (hk : e ≤ k) : Nat.gcd (2 ^ e * u) (2 ^ k) = 2 ^ e := by
  have : 2 ^ k = 2 ^ e * 2 ^ (k - e) := by rw [← Nat.pow_add]; congr 1; omega
  rw [this, Nat.gcd_mul_left, odd_coprime_two_pow u h, Nat.mul_one]

/-- A common divisor of 2^i * t and 2^e * u divides 2^i * u. -/
theorem dvd_mixed {d i e t u : Nat} (ht : t % 2 = 1) (h1 : d ∣ 2 ^ i * t) (h2 : d ∣ 2 ^ e * u) : d ∣ 2 ^ i * u := by
  have hd : 0 < d := by
    refine Nat.pos_of_ne_zero fun h0 => ?_
    subst h0
    have h3 := Nat.eq_zero_of_zero_dvd h1
    have : 0 < 2 ^ i * t := Nat.mul_pos (Nat.pow_pos (by omega)) (by omega)
    omega
  obtain ⟨x, d', rfl, ho⟩ := two_split d hd
  have a1 : d' ∣ u := Nat.Coprime.dvd_of_dvd_mul_left (show Nat.Coprime d' (2 ^ e) from odd_coprime_two_pow d' ho e) (Nat.dvd_trans (Nat.dvd_mul_left _ _) h2)
  have a2 : 2 ^ x ∣ 2 ^ i := Nat.Coprime.dvd_of_dvd_mul_right (show Nat.Coprime (2 ^ x) t from by rw [Nat.Coprime, Nat.gcd_comm]; exact odd_coprime_two_pow t ht x) (Nat.dvd_trans (Nat.dvd_mul_right _ _) h1)
  exact Nat.mul_dvd_mul a2 a1

/-! ### The strong test -/
/-- The test to the base a, n - 1 being 2^s * t. -/
def Sp (s t n a : Nat) : Prop := a ^ t % n = 1 % n ∨ ∃ i, i < s ∧ a ^ (2 ^ i * t) % n = n - 1
/-- n passes the tests to the bases 2, 7 and 61. -/
def Pass (n : Nat) : Prop := 2 ≤ n ∧ ∃ s t, n - 1 = 2 ^ s * t ∧ t % 2 = 1 ∧ Sp s t n 2 ∧ Sp s t n 7 ∧ Sp s t n 61

theorem Sp.sq {t n a i : Nat} (hn : 2 ≤ n) (h : a ^ (2 ^ i * t) % n = n - 1) : One n a (2 ^ (i + 1) * t) := by
  unfold One
  rw [Nat.pow_succ, Nat.mul_right_comm, Nat.pow_mul, Nat.pow_two, Nat.mul_mod, h]
  obtain ⟨m, rfl⟩ : ∃ m, n = m + 2 := ⟨n - 2, by omega⟩
  have : (m + 2 - 1) * (m + 2 - 1) = 1 + (m + 2) * m := by
    rw [show m + 2 - 1 = m + 1 from rfl, Nat.add_mul, Nat.mul_add, Nat.add_mul]
    omega
  rw [this, Nat.add_mul_mod_self_left]
theorem Sp.one {s t n a : Nat} (hn : 2 ≤ n) (h : Sp s t n a) : One n a (2 ^ s * t) := by
  rcases h with h | ⟨i, hi, h⟩
  · exact One.of_dvd (Nat.dvd_mul_left t (2 ^ s)) h
  · refine One.of_dvd (Nat.mul_dvd_mul (Nat.pow_dvd_pow 2 (show i + 1 ≤ s by omega)) (Nat.dvd_refl t)) (Sp.sq hn h)
/-- The level of a test: modulo every odd prime factor the same. -/
theorem Sp.level {s t n a : Nat} (hn : 2 ≤ n) (h : Sp s t n a) : ∃ J, ∀ p, Pr p → p ∣ n → p ≠ 2 → ∀ j, One p a (2 ^ j * t) ↔ J ≤ j := by
  rcases h with h | ⟨i, hi, h⟩
  · refine ⟨0, fun p _ hd _ j => ⟨fun _ => Nat.zero_le _, fun _ => ?_⟩⟩
    exact One.of_dvd (Nat.dvd_mul_left t (2 ^ j)) (One.dvd hd h)
  · refine ⟨i + 1, fun p hp hd h2 j => ⟨fun hj => ?_, fun hj => ?_⟩⟩
    · refine Decidable.byContradiction fun hlt => ?_
      have h1 : One p a (2 ^ i * t) := One.of_dvd (Nat.mul_dvd_mul (Nat.pow_dvd_pow 2 (show j ≤ i by omega)) (Nat.dvd_refl t)) hj
      unfold One at h1
      have h3 : a ^ (2 ^ i * t) % p = (n - 1) % p := by rw [← h, Nat.mod_mod_of_dvd _ hd]
      have h4 := hp.two
      obtain ⟨m, rfl⟩ := hd
      have h5 : (p * m - 1) % p = p - 1 := by
        obtain ⟨m', rfl⟩ : ∃ m', m = m' + 1 := ⟨m - 1, by
          rcases m with _ | m
          · simp at hn
          · rfl⟩
        rw [Nat.mul_succ, show p * m' + p - 1 = p - 1 + p * m' from by omega, Nat.add_mul_mod_self_left, Nat.mod_eq_of_lt (by omega)]
      rw [h3, h5, Nat.mod_eq_of_lt (by omega : 1 < p)] at h1
      omega
    · exact One.of_dvd (Nat.mul_dvd_mul (Nat.pow_dvd_pow 2 hj) (Nat.dvd_refl t)) (One.dvd hd (Sp.sq hn h))

theorem Pass.one {n : Nat} (h : Pass n) {a : Nat} (ha : a = 2 ∨ a = 7 ∨ a = 61) : One n a (n - 1) := by
  obtain ⟨h2, s, t, he, _, h1, h7, h61⟩ := h
  rw [he]
  rcases ha with rfl | rfl | rfl
  · exact h1.one h2
  · exact h7.one h2
  · exact h61.one h2

/-! ### The tests of n itself -/
theorem sq_true (n : Nat) : ∀ (k x : Nat), x % n = x → (∃ i, i < k ∧ x ^ 2 ^ i % n = n - 1) → sq n k x = true
  | 0, _, _, ⟨i, hi, _⟩ => by omega
  | k + 1, x, hx, ⟨i, hi, h⟩ => by
    show bi (Nat.beq x (n - 1)) true (sq n k (x * x % n)) = true
    cases hb : Nat.beq x (n - 1) with
    | true => rfl
    | false =>
      show sq n k (x * x % n) = true
      refine sq_true n k _ (Nat.mod_mod _ _) ?_
      rcases i with _ | i
      · rw [Nat.pow_zero, Nat.pow_one, hx] at h
        rw [h] at hb
        have : Nat.beq (n - 1) (n - 1) = true := by rw [Nat.beq_eq]
        rw [this] at hb
        cases hb
      · refine ⟨i, by omega, ?_⟩
        rw [← Nat.pow_mod, ← Nat.pow_two, ← Nat.pow_mul, ← Nat.pow_succ']
        exact h

theorem spx_true {n s t a : Nat} (hn : 2 ≤ n) (hN : n < 4294967296) (he : n - 1 = 2 ^ s * t) (ht : t % 2 = 1) (h : Sp s t n a) : spx n a = true := by
  have hs : s < 32 := by
    refine Decidable.byContradiction fun hlt => ?_
    have h1 : 2 ^ 32 ≤ 2 ^ s := Nat.pow_le_pow_right (by omega) (by omega)
    have h2 : 2 ^ s * 1 ≤ 2 ^ s * t := Nat.mul_le_mul_left _ (by omega)
    omega
  have htw : tw (n - 1) = 2 ^ s := by
    unfold tw
    rw [he]
    exact gcd_two_pow s t 32 ht (by omega)
  have hdiv : Nat.div (n - 1) (2 ^ s) = t := by
    show (n - 1) / 2 ^ s = t
    rw [he]
    exact Nat.mul_div_cancel_left t (Nat.pow_pos (by omega))
  have e1 : tw (Nat.sub n 1) = 2 ^ s := htw
  unfold spx
  rw [e1, show Nat.div (Nat.sub n 1) (2 ^ s) = t from hdiv, Nat.log2_two_pow, f32_eq]
  rcases h with h | ⟨i, hi, h⟩
  · rw [h, Nat.mod_eq_of_lt (by omega : 1 < n)]
    rfl
  · cases hb : Nat.beq (a ^ t % n) 1 with
    | true => rfl
    | false =>
      show sq n s (a ^ t % n) = true
      refine sq_true n s _ (Nat.mod_mod _ _) ⟨i, hi, ?_⟩
      rw [← Nat.pow_mod, ← Nat.pow_mul, Nat.mul_comm]
      exact h

theorem fails_not {n : Nat} (hN : n < 4294967296) (h : Pass n) : fails n = false := by
  have h1 := h.one (a := 2) (.inl rfl)
  obtain ⟨h2, s, t, he, ht, a1, a2, a3⟩ := h
  unfold One at h1
  unfold fails
  rw [f32_eq]
  rw [show Nat.sub n 1 = n - 1 from rfl, h1, Nat.mod_eq_of_lt (by omega : 1 < n), spx_true h2 hN he ht a1, spx_true h2 hN he ht a2, spx_true h2 hN he ht a3]
  have : Nat.ble 4294967296 n = false := by
    cases hb : Nat.ble 4294967296 n with
    | false => rfl
    | true => have := Nat.le_of_ble_eq_true hb; omega
  rw [this]
  rfl

end Mr
