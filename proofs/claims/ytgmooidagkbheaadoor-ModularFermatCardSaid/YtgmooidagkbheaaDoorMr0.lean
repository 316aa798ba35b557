/-
  Plain facts on numbers: powers modulo a number, the least prime factor, Fermat's little theorem. No program in sight.
-/
namespace Mr

/-- p is a prime. -/
def Pr (p : Nat) : Prop := 2 ≤ p ∧ ∀ d, d ∣ p → d = 1 ∨ d = p

theorem Pr.two {p : Nat} (h : Pr p) : 2 ≤ p := h.1

/-- A number above 1 has a prime factor that is not greater than any of its divisors above 1. -/
theorem least_factor : ∀ n, 2 ≤ n → ∃ p, Pr p ∧ p ∣ n ∧ ∀ d, 2 ≤ d → d ∣ n → p ≤ d := by
  intro n hn
  have key : ∀ k, (∀ d, 2 ≤ d → d < k → ¬ d ∣ n) ∨ ∃ p, 2 ≤ p ∧ p ∣ n ∧ ∀ d, 2 ≤ d → d ∣ n → p ≤ d := by
    intro k
    induction k with
    | zero => exact .inl fun d _ h => by omega
    | succ k ih =>
      rcases ih with ih | ih
      · by_cases hk : 2 ≤ k ∧ k ∣ n
        · refine .inr ⟨k, hk.1, hk.2, fun d h2 hd => ?_⟩
          rcases Nat.lt_or_ge d k with h | h
          · exact absurd hd (ih d h2 h)
          · exact h
        · refine .inl fun d h2 hd => ?_
          rcases Nat.lt_or_ge d k with h | h
          · exact ih d h2 h
          · have : d = k := by omega
            subst this
            exact fun h => hk ⟨h2, h⟩
      · exact .inr ih
  rcases key (n + 1) with h | ⟨p, h2, hp, hmin⟩
  · exact absurd (Nat.dvd_refl n) (h n hn (by omega))
  · refine ⟨p, ⟨h2, fun d hd => ?_⟩, hp, hmin⟩
    have hd0 : d ≠ 0 := by
      intro h
      subst h
      have := Nat.eq_zero_of_zero_dvd hd
      omega
    rcases Nat.lt_or_ge d 2 with h | h
    · left; omega
    · have := hmin d h (Nat.dvd_trans hd hp)
      have := Nat.le_of_dvd (by omega) hd
      right; omega

theorem Pr.coprime {p : Nat} (hp : Pr p) (a : Nat) (h : ¬ p ∣ a) : Nat.gcd p a = 1 := by
  rcases hp.2 _ (Nat.gcd_dvd_left p a) with h1 | h1
  · exact h1
  · exact absurd (h1 ▸ Nat.gcd_dvd_right p a) h

theorem Pr.dvd_mul {p a b : Nat} (hp : Pr p) (h : p ∣ a * b) : p ∣ a ∨ p ∣ b := by
  by_cases ha : p ∣ a
  · exact .inl ha
  · exact .inr (Nat.Coprime.dvd_of_dvd_mul_left (show Nat.Coprime p a from hp.coprime a ha) h)

theorem Pr.dvd_pow {p a : Nat} (hp : Pr p) : ∀ n, p ∣ a ^ n → p ∣ a
  | 0, h => by
    have h1 := Nat.le_of_dvd (by simp) h
    have := hp.two
    rw [Nat.pow_zero] at h1
    omega
  | n + 1, h => by
    rw [Nat.pow_succ] at h
    rcases hp.dvd_mul h with h | h
    · exact hp.dvd_pow n h
    · exact h

theorem Pr.eq_of_dvd {p q : Nat} (hp : Pr p) (hq : Pr q) (h : p ∣ q) : p = q := by
  rcases hq.2 p h with h1 | h1
  · have := hp.two; omega
  · exact h1

/-- A number that no d with d * d ≤ n divides is a prime. -/
theorem prime_of_trial (n : Nat) (h2 : 2 ≤ n) (h : ∀ d, 2 ≤ d → d * d ≤ n → ¬ d ∣ n) : Pr n := by
  obtain ⟨p, hp, hd, hmin⟩ := least_factor n h2
  obtain ⟨m, hm⟩ := hd
  by_cases h1 : m = 1
  · subst h1
    rw [Nat.mul_one] at hm
    exact hm ▸ hp
  · have hm2 : 2 ≤ m := by
      rcases Nat.lt_or_ge m 2 with h | h
      · have : m = 0 := by omega
        subst this
        omega
      · exact h
    have := hmin m hm2 ⟨p, by rw [hm, Nat.mul_comm]⟩
    have hpp : p * p ≤ n := by rw [hm]; exact Nat.mul_le_mul_left p this
    exact absurd ⟨m, hm⟩ (h p hp.two hpp)

/-- A composite number's least prime factor: its square is not greater. -/
theorem composite_factor (n : Nat) (h2 : 2 ≤ n) (h : ¬ Pr n) : ∃ p m, Pr p ∧ n = p * m ∧ p ≤ m ∧ ∀ d, 2 ≤ d → d ∣ n → p ≤ d := by
  obtain ⟨p, hp, hd, hmin⟩ := least_factor n h2
  obtain ⟨m, hm⟩ := hd
  refine ⟨p, m, hp, hm, ?_, hmin⟩
  have hm1 : m ≠ 1 := by
    intro e
    subst e
    rw [Nat.mul_one] at hm
    exact h (hm ▸ hp)
  have hm2 : 2 ≤ m := by
    rcases Nat.lt_or_ge m 2 with h | h
    · have : m = 0 := by omega
      subst this
      omega
    · exact h
  exact hmin m hm2 ⟨p, by rw [hm, Nat.mul_comm]⟩

/-! ### Powers modulo p -/

/-- a^k is 1 modulo p. -/
def One (p a k : Nat) : Prop := a ^ k % p = 1 % p

theorem One.zero (p a : Nat) : One p a 0 := by simp [One]
theorem mod_eq_of_dvd {m n a b : Nat} (h : m ∣ n) (e : a % n = b % n) : a % m = b % m := by
  rw [← Nat.mod_mod_of_dvd a h, e, Nat.mod_mod_of_dvd b h]
theorem One.dvd {p n a k : Nat} (h : p ∣ n) (e : One n a k) : One p a k := mod_eq_of_dvd h e
theorem One.add {p a j k : Nat} (hj : One p a j) (hk : One p a k) : One p a (j + k) := by
  unfold One at *
  rw [Nat.pow_add, Nat.mul_mod, hj, hk, ← Nat.mul_mod]
theorem One.mul {p a k : Nat} (h : One p a k) : ∀ j, One p a (k * j)
  | 0 => One.zero p a
  | j + 1 => by rw [Nat.mul_succ]; exact (h.mul j).add h
theorem One.sub {p a j k : Nat} (hj : One p a j) (hk : One p a (j + k)) : One p a k := by
  unfold One at *
  rw [Nat.pow_add, Nat.mul_mod, hj, ← Nat.mul_mod, Nat.one_mul] at hk
  exact hk
theorem One.mod {p a j k : Nat} (hj : One p a j) (hk : One p a k) : One p a (k % j) := by
  have := Nat.div_add_mod k j
  rw [← this] at hk
  exact (hj.mul (k / j)).sub hk
theorem One.gcd {p a : Nat} (j k : Nat) : One p a j → One p a k → One p a (Nat.gcd j k) := by
  induction j, k using Nat.gcd.induction with
  | H0 n => intro _ h; rw [Nat.gcd_zero_left]; exact h
  | H1 m n hm ih =>
    intro h1 h2
    rw [Nat.gcd_rec]
    exact ih (h1.mod h2) h1
theorem One.of_dvd {p a j k : Nat} (h : j ∣ k) (hj : One p a j) : One p a k := by
  obtain ⟨m, rfl⟩ := h
  exact hj.mul m

/-! ### Fermat -/

/-- The residues 1 .. p-1, multiplied by a, are the residues 1 .. p-1 again: by counting products. -/
def fac : Nat → Nat
  | 0 => 1
  | n + 1 => (n + 1) * fac n

theorem Pr.not_dvd_fac {p : Nat} (hp : Pr p) : ∀ n, n < p → ¬ p ∣ fac n
  | 0, _, h => by
    have := Nat.le_of_dvd (by decide) h
    have := hp.two
    simp [fac] at *
    omega
  | n + 1, hn, h => by
    rcases hp.dvd_mul h with h | h
    · have := Nat.le_of_dvd (by omega) h
      omega
    · exact hp.not_dvd_fac n (by omega) h

/-- A product over a list. -/
def prod : List Nat → Nat
  | [] => 1
  | x :: l => x * prod l
theorem prod_perm {l l' : List Nat} (h : l.Perm l') : prod l = prod l' := by
  induction h with
  | nil => rfl
  | cons x _ ih => simp [prod, ih]
  | swap x y l => simp only [prod]; rw [Nat.mul_left_comm]
  | trans _ _ h1 h2 => exact h1.trans h2

def upto : Nat → List Nat
  | 0 => []
  | n + 1 => (n + 1) :: upto n
theorem prod_upto : ∀ n, prod (upto n) = fac n
  | 0 => rfl
  | n + 1 => by simp [upto, prod, fac, prod_upto n]
theorem mem_upto : ∀ n x, x ∈ upto n ↔ 1 ≤ x ∧ x ≤ n
  | 0, x => by simp [upto]; omega
  | n + 1, x => by
    simp only [upto, List.mem_cons, mem_upto n x]
    omega
theorem upto_nodup : ∀ n, (upto n).Nodup
  | 0 => List.nodup_nil
  | n + 1 => by
    rw [upto, List.nodup_cons]
    exact ⟨fun h => by have := (mem_upto n _).1 h; omega, upto_nodup n⟩
theorem upto_length : ∀ n, (upto n).length = n
  | 0 => rfl
  | n + 1 => by simp [upto, upto_length n]

theorem prod_map_mod (p a : Nat) : ∀ l : List Nat, prod (l.map fun x => a * x % p) % p = a ^ l.length * prod l % p
  | [] => by simp [prod]
  | x :: l => by
    simp only [List.map_cons, prod, List.length_cons]
    rw [Nat.mul_mod, Nat.mod_mod, prod_map_mod p a l, ← Nat.mul_mod, Nat.pow_succ]
    congr 1
    rw [Nat.mul_assoc a x, Nat.mul_left_comm x, ← Nat.mul_assoc a, Nat.mul_comm a (a ^ _)]

theorem nodup_map {f : Nat → Nat} : ∀ (l : List Nat), l.Nodup → (∀ x ∈ l, ∀ y ∈ l, f x = f y → x = y) → (l.map f).Nodup
  | [], _, _ => List.nodup_nil
  | x :: l, hn, hi => by
    rw [List.nodup_cons] at hn
    rw [List.map_cons, List.nodup_cons]
    refine ⟨fun h => ?_, nodup_map l hn.2 fun a ha b hb => hi a (List.mem_cons_of_mem _ ha) b (List.mem_cons_of_mem _ hb)⟩
    obtain ⟨y, hy, e⟩ := List.mem_map.1 h
    have := hi y (List.mem_cons_of_mem _ hy) x (List.mem_cons_self ..) e
    exact hn.1 (this ▸ hy)

theorem dvd_of_mod_eq {p a b : Nat} (h : a ≤ b) (e : a % p = b % p) : p ∣ b - a := by
  have h1 := Nat.div_add_mod a p
  have h2 := Nat.div_add_mod b p
  refine ⟨b / p - a / p, ?_⟩
  rw [Nat.mul_sub]
  have h3 : p * (a / p) ≤ p * (b / p) := Nat.mul_le_mul_left p (Nat.div_le_div_right h)
  omega

theorem pigeon : ∀ (n : Nat) (l : List Nat), l.Nodup → (∀ x ∈ l, 1 ≤ x ∧ x ≤ n) → l.length ≤ n
  | 0, [], _, _ => Nat.le_refl _
  | 0, x :: l, _, h => by have := h x (List.mem_cons_self ..); omega
  | n + 1, l, hn, h => by
    have h1 := pigeon n (l.erase (n + 1)) (hn.erase _) fun x hx => by
      have h2 := (hn.mem_erase_iff).1 hx
      have := h x h2.2
      omega
    by_cases hm : (n + 1) ∈ l
    · rw [List.length_erase_of_mem hm] at h1
      omega
    · rw [List.erase_of_not_mem hm] at h1
      omega

theorem perm_upto : ∀ (n : Nat) (l : List Nat), l.Nodup → (∀ x ∈ l, 1 ≤ x ∧ x ≤ n) → l.length = n → l.Perm (upto n)
  | 0, l, _, _, hl => by
    rw [List.length_eq_zero_iff] at hl
    subst hl
    exact List.Perm.refl _
  | n + 1, l, hn, h, hl => by
    have hm : (n + 1) ∈ l := by
      refine Decidable.byContradiction fun hm => ?_
      have := pigeon n l hn fun x hx => by
        have h1 := h x hx
        have : x ≠ n + 1 := fun e => hm (e ▸ hx)
        omega
      omega
    refine (List.perm_cons_erase hm).trans (List.Perm.cons _ ?_)
    refine perm_upto n _ (hn.erase _) (fun x hx => ?_) (by rw [List.length_erase_of_mem hm]; omega)
    have h2 := (hn.mem_erase_iff).1 hx
    have := h x h2.2
    omega

/-- Fermat's little theorem. -/
theorem fermat {p a : Nat} (hp : Pr p) (ha : ¬ p ∣ a) : One p a (p - 1) := by
  have h2 := hp.two
  have hperm : ((upto (p - 1)).map fun x => a * x % p).Perm (upto (p - 1)) := by
    refine perm_upto _ _ (nodup_map _ (upto_nodup _) ?_) ?_ (by rw [List.length_map, upto_length])
    · intro x hx y hy e
      have hx := (mem_upto _ _).1 hx
      have hy := (mem_upto _ _).1 hy
      have key : ∀ x y, x ≤ y → y < p → a * x % p = a * y % p → x = y := by
        intro x y hxy hyp e
        have h1 := dvd_of_mod_eq (Nat.mul_le_mul_left a hxy) e
        rw [← Nat.mul_sub] at h1
        rcases hp.dvd_mul h1 with h | h
        · exact absurd h ha
        · by_cases h0 : y - x = 0
          · omega
          · have := Nat.le_of_dvd (by omega) h
            omega
      rcases Nat.le_total x y with h | h
      · exact key x y h (by omega) e
      · exact (key y x h (by omega) e.symm).symm
    · intro x hx
      obtain ⟨y, hy, rfl⟩ := List.mem_map.1 hx
      have hy := (mem_upto _ _).1 hy
      have h1 := Nat.mod_lt (a * y) (show 0 < p by omega)
      have h3 : a * y % p ≠ 0 := by
        intro h0
        rcases hp.dvd_mul (Nat.dvd_of_mod_eq_zero h0) with h | h
        · exact ha h
        · have := Nat.le_of_dvd (by omega) h
          omega
      omega
  have e := prod_map_mod p a (upto (p - 1))
  rw [prod_perm hperm, prod_upto, upto_length] at e
  have hf := hp.not_dvd_fac (p - 1) (by omega)
  have key : ∀ u v, u ≤ v → u * fac (p - 1) % p = v * fac (p - 1) % p → u % p = v % p := by
    intro u v huv e
    have h1 := dvd_of_mod_eq (Nat.mul_le_mul_right (fac (p - 1)) huv) e
    rw [← Nat.sub_mul] at h1
    rcases hp.dvd_mul h1 with h | h
    · obtain ⟨m, hm⟩ := h
      have : v = u + p * m := by omega
      rw [this, Nat.add_mul_mod_self_left]
    · exact absurd h hf
  unfold One
  rcases Nat.le_total (a ^ (p - 1)) 1 with h | h
  · exact key _ _ h (by rw [Nat.one_mul]; exact e.symm)
  · exact (key _ _ h (by rw [Nat.one_mul]; exact e)).symm

end Mr
