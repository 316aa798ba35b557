/-
  The table is right: each row a prime with the order of its bases, and no prime is missing. No program in sight.
-/
import Derived.Test.YtgmooidagkbheaaDoorMr2
import Derived.Test.YtgmooidagkbheaaDoorMr3
namespace Mr

/-! ### Products of lists -/
theorem dvd_prod {p : Nat} (hp : Pr p) : ∀ l : List Nat, p ∣ prod l → ∃ x, x ∈ l ∧ p ∣ x
  | [], h => by
    have h1 := Nat.le_of_dvd (by simp [prod]) h
    have := hp.two
    simp [prod] at h1
    omega
  | x :: l, h => by
    rcases hp.dvd_mul h with h | h
    · exact ⟨x, List.mem_cons_self .., h⟩
    · obtain ⟨y, hy, hd⟩ := dvd_prod hp l h
      exact ⟨y, List.mem_cons_of_mem _ hy, hd⟩
theorem mem_dvd_prod : ∀ (l : List Nat) (x : Nat), x ∈ l → x ∣ prod l
  | y :: l, x, h => by
    rcases List.mem_cons.1 h with e | e
    · rw [e]; exact Nat.dvd_mul_right _ _
    · exact Nat.dvd_trans (mem_dvd_prod l x e) (Nat.dvd_mul_left _ _)

def S6 : List Nat := [2, 3, 5, 7, 11, 13]
theorem q251_prod : Q251 = prod S54 := by decide +kernel
theorem q30030_prod : 30030 = prod S6 := by decide +kernel
theorem qq_prod : QQ = prod S168 := by decide +kernel
theorem s54_le : S54.all (fun x => decide (x ≤ 251)) = true := by decide +kernel
theorem s168_le : S168.all (fun x => decide (x ≤ 1008)) = true := by decide +kernel
/-- Each number below 256 is on the list, or below 2, or 2, 3, 5, 7, 11 or 13 divides it and is not it. -/
theorem small_all : (List.range 256).all (fun q => S54.contains q || decide (q < 2) || S6.any (fun d => decide (q % d = 0 ∧ d ≠ q))) = true := by decide +kernel
theorem s54_small : S54.all (fun x => decide (16 < x) || S6.contains x) = true := by decide +kernel

theorem prime_mem {q : Nat} (hq : Pr q) (h : q < 256) : q ∈ S54 := by
  have h1 := List.all_eq_true.1 small_all q (List.mem_range.2 h)
  simp only [Bool.or_eq_true, List.contains_iff_mem, decide_eq_true_eq, List.any_eq_true] at h1
  rcases h1 with (h1 | h1) | ⟨d, hd, h1, h2⟩
  · exact h1
  · have := hq.two; omega
  · exfalso
    rcases hq.2 d (Nat.dvd_of_mod_eq_zero h1) with h3 | h3
    · subst h3
      simp [S6] at hd
    · exact h2 h3
theorem prime_mem6 {q : Nat} (hq : Pr q) (h : q ≤ 16) : q ∈ S6 := by
  have h1 := List.all_eq_true.1 s54_small q (prime_mem hq (by omega))
  simp only [Bool.or_eq_true, List.contains_iff_mem, decide_eq_true_eq] at h1
  rcases h1 with h1 | h1
  · omega
  · exact h1
theorem s54_bound {x : Nat} (h : x ∈ S54) : x ≤ 251 := by simpa using List.all_eq_true.1 s54_le x h
theorem s168_bound {x : Nat} (h : x ∈ S168) : x ≤ 1008 := by simpa using List.all_eq_true.1 s168_le x h
theorem s6_bound {x : Nat} (h : x ∈ S6) : 1 ≤ x ∧ x ≤ 13 := by
  simp [S6] at h
  omega
theorem s54_pos : S54.all (fun x => decide (0 < x)) = true := by decide +kernel
theorem s168_pos : S168.all (fun x => decide (0 < x)) = true := by decide +kernel

theorem prime_q251 {q : Nat} (hq : Pr q) (h : q ∣ Q251) : q ≤ 251 := by
  rw [q251_prod] at h
  obtain ⟨x, hx, hd⟩ := dvd_prod hq _ h
  have := s54_bound hx
  have h1 : 0 < x := by simpa using List.all_eq_true.1 s54_pos x hx
  have := Nat.le_of_dvd h1 hd
  omega
theorem prime_30030 {q : Nat} (hq : Pr q) (h : q ∣ 30030) : q ≤ 13 := by
  rw [q30030_prod] at h
  obtain ⟨x, hx, hd⟩ := dvd_prod hq _ h
  have h1 := s6_bound hx
  have := Nat.le_of_dvd h1.1 hd
  omega
theorem prime_qq {q : Nat} (hq : Pr q) (h : q ∣ QQ) : q ≤ 1008 := by
  rw [qq_prod] at h
  obtain ⟨x, hx, hd⟩ := dvd_prod hq _ h
  have := s168_bound hx
  have h1 : 0 < x := by simpa using List.all_eq_true.1 s168_pos x hx
  have := Nat.le_of_dvd h1 hd
  omega

/-- A number below 65536 that has no factor in common with the product of the primes up to 251. -/
theorem prime_of_251 {c : Nat} (h2 : 2 ≤ c) (h : c < 65536) (hg : Nat.gcd c Q251 = 1) : Pr c := by
  refine prime_of_trial c h2 fun d hd hdd hdc => ?_
  obtain ⟨q, hq, hqd, _⟩ := least_factor d hd
  have h3 : d < 256 := by
    refine Decidable.byContradiction fun hlt => ?_
    have : 256 * 256 ≤ d * d := Nat.mul_le_mul (by omega) (by omega)
    omega
  have h4 := Nat.le_of_dvd (by omega) hqd
  have h5 : q ∣ Q251 := by rw [q251_prod]; exact mem_dvd_prod _ _ (prime_mem hq (by omega))
  have h6 := Nat.dvd_gcd (Nat.dvd_trans hqd hdc) h5
  rw [hg] at h6
  have := Nat.le_of_dvd (by omega) h6
  have := hq.two
  omega
theorem prime_of_30030 {c : Nat} (h2 : 2 ≤ c) (h : c ≤ 288) (hg : Nat.gcd c 30030 = 1) : Pr c := by
  refine prime_of_trial c h2 fun d hd hdd hdc => ?_
  obtain ⟨q, hq, hqd, _⟩ := least_factor d hd
  have h3 : d ≤ 16 := by
    refine Decidable.byContradiction fun hlt => ?_
    have : 17 * 17 ≤ d * d := Nat.mul_le_mul (by omega) (by omega)
    omega
  have h4 := Nat.le_of_dvd (by omega) hqd
  have h5 : q ∣ 30030 := by rw [q30030_prod]; exact mem_dvd_prod _ _ (prime_mem6 hq (by omega))
  have h6 := Nat.dvd_gcd (Nat.dvd_trans hqd hdc) h5
  rw [hg] at h6
  have := Nat.le_of_dvd (by omega) h6
  have := hq.two
  omega

theorem pr_of_small (c : Nat) (h2 : 2 ≤ c) (h : (List.range c).all (fun d => decide (d < 2) || decide (c % d ≠ 0)) = true) : Pr c := by
  refine prime_of_trial c h2 fun d hd hdd hdc => ?_
  have hlt : d < c := by
    refine Decidable.byContradiction fun hlt => ?_
    have : c * 2 ≤ d * d := Nat.mul_le_mul (by omega) hd
    omega
  have := List.all_eq_true.1 h d (List.mem_range.2 hlt)
  simp only [Bool.or_eq_true, decide_eq_true_eq] at this
  rcases this with h | h
  · omega
  · exact h (Nat.mod_eq_zero_of_dvd hdc)

theorem prB_true {p : Nat} (h : prB p = true) : Pr p ∧ 11 ≤ p ∧ p < 65536 := by
  unfold prB at h
  rcases bi_true h with ⟨h1, _⟩ | ⟨_, h⟩
  · rw [Nat.eq_of_beq_eq_true h1]
    exact ⟨pr_of_small 11 (by omega) (by decide), by omega, by omega⟩
  rcases bi_true h with ⟨h1, _⟩ | ⟨_, h⟩
  · rw [Nat.eq_of_beq_eq_true h1]
    exact ⟨pr_of_small 13 (by omega) (by decide), by omega, by omega⟩
  rcases bi_true h with ⟨h1, h⟩ | ⟨_, h⟩
  · rcases bi_true h with ⟨h2, h⟩ | ⟨_, h⟩
    · have h1 := Nat.le_of_ble_eq_true h1
      have h2 := Nat.le_of_ble_eq_true h2
      exact ⟨prime_of_30030 (by omega) h1 (Nat.eq_of_beq_eq_true h), by omega, by omega⟩
    · cases h
  · rename_i h0
    rcases bi_true h with ⟨h2, h⟩ | ⟨_, h⟩
    · have h2 := Nat.le_of_ble_eq_true h2
      have h1 : ¬ p ≤ 288 := fun hle => by rw [Nat.ble_eq_true_of_le hle] at h0; cases h0
      exact ⟨prime_of_251 (by omega) (by omega) (Nat.eq_of_beq_eq_true h), by omega, by omega⟩
    · cases h

theorem npB_true {x : Nat} (h : npB x = true) (hx : Pr x) (h11 : 11 ≤ x) : x = 61 := by
  have key : ∀ m, Nat.gcd x m ≠ 1 → x ∣ m := fun m hm => Decidable.byContradiction fun hn => hm (hx.coprime m hn)
  unfold npB at h
  rcases bi_true h with ⟨h1, _⟩ | ⟨_, h⟩
  · exact Nat.eq_of_beq_eq_true h1
  exfalso
  rcases bi_true h with ⟨_, h⟩ | ⟨h0, h⟩
  · rcases bi_true h with ⟨h2, h⟩ | ⟨h3, h⟩
    · have h2 := Nat.le_of_ble_eq_true h2
      rcases bi_true h with ⟨_, h⟩ | ⟨hg, _⟩
      · cases h
      · have := prime_30030 hx (key _ fun e => by
          rw [e] at hg
          cases hg)
        omega
    · have h3 : x < 17 := by
        refine Decidable.byContradiction fun hlt => ?_
        rw [Nat.ble_eq_true_of_le (by omega)] at h3
        cases h3
      have hm := prime_mem6 hx (by omega)
      rcases bi_true h with ⟨_, h⟩ | ⟨ha, h⟩
      · cases h
      · rcases bi_true h with ⟨_, h⟩ | ⟨hb, _⟩
        · cases h
        · simp [S6] at hm
          rcases hm with rfl | rfl | rfl | rfl | rfl | rfl <;> first | omega | exact absurd ha (by decide) | exact absurd hb (by decide)
  · rcases bi_true h with ⟨_, h⟩ | ⟨hg, _⟩
    · cases h
    · have h1 : ¬ x ≤ 288 := fun hle => by rw [Nat.ble_eq_true_of_le hle] at h0; cases h0
      have := prime_q251 hx (key _ fun e => by
        rw [e] at hg
        cases hg)
      omega

/-! ### The rows -/
/-- The three bases to the k are 1 modulo p. -/
def K3 (p k : Nat) : Prop := One p 2 k ∧ One p 7 k ∧ One p 61 k
theorem K3.gcd {p j k : Nat} (h1 : K3 p j) (h2 : K3 p k) : K3 p (Nat.gcd j k) := ⟨One.gcd _ _ h1.1 h2.1, One.gcd _ _ h1.2.1 h2.2.1, One.gcd _ _ h1.2.2 h2.2.2⟩
theorem K3.of_dvd {p j k : Nat} (h : j ∣ k) (h1 : K3 p j) : K3 p k := ⟨One.of_dvd h h1.1, One.of_dvd h h1.2.1, One.of_dvd h h1.2.2⟩

theorem kB_iff {p k : Nat} (hp : 2 ≤ p) : kB p k = true ↔ K3 p k := by
  have h1 : 1 % p = 1 := Nat.mod_eq_of_lt (by omega)
  unfold kB K3 One
  rw [f16_eq, f16_eq, f16_eq, h1]
  constructor
  · intro h
    rcases bi_true h with ⟨a, h⟩ | ⟨_, h⟩
    · rcases bi_true h with ⟨b, h⟩ | ⟨_, h⟩
      · exact ⟨Nat.eq_of_beq_eq_true a, Nat.eq_of_beq_eq_true b, Nat.eq_of_beq_eq_true h⟩
      · cases h
    · cases h
  · rintro ⟨a, b, c⟩
    rw [a, b, c]
    rfl
theorem nkB_not {p k : Nat} (hp : 2 ≤ p) (h : nkB p k = true) : ¬ K3 p k := by
  intro hk
  unfold nkB at h
  rw [(kB_iff hp).2 hk] at h
  cases h

/-- What a row says. -/
structure RowOk (p L v : Nat) : Prop where
  pr : Pr p
  lo : 11 ≤ p
  hi : p < 65536
  pos : 0 < L
  lt : L < 65536
  k3 : K3 p L
  min : ∀ l, Pr l → l ∣ L → ¬ K3 p (L / l)
  code : v = vcode p (L / Nat.gcd L 65536)

theorem ordB_true {p L : Nat} (hp : 2 ≤ p) (hL : L < 65536) (h : ordB p L = true) : 0 < L ∧ K3 p L ∧ ∀ l, Pr l → l ∣ L → ¬ K3 p (L / l) := by
  unfold ordB at h
  rcases bi_true h with ⟨hk, h⟩ | ⟨_, h⟩
  case inr => cases h
  rcases bi_true h with ⟨ha, h⟩ | ⟨_, h⟩
  case inr => cases h
  rw [fc_eq] at h
  have ha := la_all _ ha
  have hsm : ∀ l, l ∈ S54 → l ∣ L → ¬ K3 p (L / l) := by
    intro l hl hd
    rcases bi_true (ha l hl) with ⟨_, h1⟩ | ⟨h1, _⟩
    · exact nkB_not hp h1
    · exfalso
      have : Nat.mod L l = 0 := Nat.mod_eq_zero_of_dvd hd
      rw [this] at h1
      cases h1
  have hpos : 0 < L := by
    refine Nat.pos_of_ne_zero fun h0 => ?_
    subst h0
    refine hsm 2 (by decide) (Nat.dvd_zero 2) ?_
    rw [Nat.zero_div]
    exact ⟨One.zero _ _, One.zero _ _, One.zero _ _⟩
  refine ⟨hpos, (kB_iff hp).1 hk, fun l hl hd => ?_⟩
  by_cases hlt : l < 256
  · exact hsm l (prime_mem hl hlt) hd
  · have hg := Nat.gcd_dvd_left L (Q251 ^ 16)
    have hg2 := Nat.gcd_dvd_right L (Q251 ^ 16)
    have h' : bi (Nat.beq (L / Nat.gcd L (Q251 ^ 16)) 1) true (bi (Nat.beq (Nat.gcd (L / Nat.gcd L (Q251 ^ 16)) Q251) 1) (nkB p (L / (L / Nat.gcd L (Q251 ^ 16)))) false) = true := h
    clear h ha hk
    generalize Nat.gcd L (Q251 ^ 16) = g at *
    obtain ⟨c, hc⟩ := hg
    have hg0 : 0 < g := by
      refine Nat.pos_of_ne_zero fun h0 => ?_
      subst h0
      simp at hc
      omega
    have hdiv : L / g = c := by rw [hc, Nat.mul_div_cancel_left _ hg0]
    rw [hdiv] at h'
    have hlc : l ∣ c := by
      rw [hc] at hd
      rcases hl.dvd_mul hd with h1 | h1
      · exfalso
        have h2 := hl.dvd_pow 16 (Nat.dvd_trans h1 hg2)
        have := prime_q251 hl h2
        omega
      · exact h1
    have hcpos : 0 < c := by
      refine Nat.pos_of_ne_zero fun h0 => ?_
      subst h0
      simp at hc
      omega
    have hcle : c ≤ L := by rw [hc]; exact Nat.le_mul_of_pos_left _ hg0
    have := Nat.le_of_dvd hcpos hlc
    rcases bi_true h' with ⟨h1, _⟩ | ⟨_, h'⟩
    · have := Nat.eq_of_beq_eq_true h1
      omega
    · rcases bi_true h' with ⟨h1, h2⟩ | ⟨_, h2⟩
      · have hcp := prime_of_251 (by omega) (by omega) (Nat.eq_of_beq_eq_true h1)
        have e := hl.eq_of_dvd hcp hlc
        rw [e]
        exact nkB_not hp h2
      · cases h2

theorem rowB_true {i : Nat} (h : rowB i = true) : RowOk (rP i) (rL i) (rV i) := by
  unfold rowB at h
  rw [fc_eq, fc_eq] at h
  rcases bi_true h with ⟨h1, h⟩ | ⟨_, h⟩
  case inr => cases h
  rcases bi_true h with ⟨h2, h⟩ | ⟨_, h⟩
  case inr => cases h
  obtain ⟨a, b, c⟩ := prB_true h1
  have hL : rL i < 65536 := Nat.mod_lt _ (by omega)
  obtain ⟨d, e, f⟩ := ordB_true (by omega) hL h2
  exact ⟨a, b, c, d, hL, e, f, Nat.eq_of_beq_eq_true h⟩

theorem row_all (i : Nat) (h : i < 6537) : RowOk (rP i) (rL i) (rV i) := by
  have go : ∀ (k a : Nat), lp rowB 1 k a = true → a ≤ i → i < a + 2 ^ k → RowOk (rP i) (rL i) (rV i) := by
    intro k a hr h1 h2
    have := lp_all k a hr (i - a) (by omega)
    rw [Nat.one_mul, show a + (i - a) = i from by omega] at this
    exact rowB_true this
  by_cases a0 : i < 4096
  · exact go 12 0 row0 (by omega) (by omega)
  by_cases a1 : i < 6144
  · exact go 11 4096 row1 (by omega) (by omega)
  by_cases a2 : i < 6400
  · exact go 8 6144 row2 (by omega) (by omega)
  by_cases a3 : i < 6528
  · exact go 7 6400 row3 (by omega) (by omega)
  by_cases a4 : i < 6536
  · exact go 3 6528 row4 (by omega) (by omega)
  · exact go 0 6536 row5 (by omega) (by omega)

theorem gap_all (i : Nat) (h : i < 6536) : rP i < rP (i + 1) ∧ ∀ x, Pr x → rP i < x → x < rP (i + 1) → x = 61 := by
  have hlo := (row_all i (by omega)).lo
  have fin : gapB i = true → rP i < rP (i + 1) ∧ ∀ x, Pr x → rP i < x → x < rP (i + 1) → x = 61 := by
    intro hg
    unfold gapB at hg
    rw [fc_eq, fc_eq] at hg
    rcases bi_true hg with ⟨h1, h2⟩ | ⟨_, h2⟩
    case inr => cases h2
    have h1 : rP i + 1 ≤ rP (i + 1) := Nat.le_of_ble_eq_true h1
    refine ⟨by omega, fun x hx hx1 hx2 => ?_⟩
    have h3 := lq_all _ h2 (x - (rP i + 1)) (by show _ < rP (i + 1) - (rP i + 1); omega)
    have h4 : npB (rP i + 1 + (x - (rP i + 1))) = true := h3
    rw [show rP i + 1 + (x - (rP i + 1)) = x from by omega] at h4
    exact npB_true h4 hx (by omega)
  have go : ∀ (k a : Nat), lp gapB 1 k a = true → a ≤ i → i < a + 2 ^ k → gapB i = true := by
    intro k a hr h1 h2
    have := lp_all k a hr (i - a) (by omega)
    rw [Nat.one_mul, show a + (i - a) = i from by omega] at this
    exact this
  refine fin ?_
  by_cases a0 : i < 4096
  · exact go 12 0 gap0 (by omega) (by omega)
  by_cases a1 : i < 6144
  · exact go 11 4096 gap1 (by omega) (by omega)
  by_cases a2 : i < 6400
  · exact go 8 6144 gap2 (by omega) (by omega)
  by_cases a3 : i < 6528
  · exact go 7 6400 gap3 (by omega) (by omega)
  · exact go 3 6528 gap4 (by omega) (by omega)

theorem rP_mono {i j : Nat} (h : i < j) (hj : j < 6537) : rP i < rP j := by
  induction j with
  | zero => omega
  | succ j ih =>
    have h1 := (gap_all j (by omega)).1
    by_cases e : i = j
    · rw [e]; exact h1
    · have := ih (by omega) (by omega)
      omega

theorem rP_first : rP 0 = 11 := by decide +kernel
theorem rP_last : rP 6536 = 65521 := by decide +kernel
theorem rP_1009 : rP 163 = 1009 := by decide +kernel
theorem rP_2304 : decide (19764 < rP 2304) = true := by decide +kernel

/-- Each prime from 11 to 65535 but 61 is in the table. -/
theorem covered (q : Nat) (hq : Pr q) (h11 : 11 ≤ q) (h : q < 65536) (h61 : q ≠ 61) : ∃ i, i < 6537 ∧ rP i = q := by
  have key : ∀ j, j < 6537 → q ≤ rP j → ∃ i, i < 6537 ∧ rP i = q := by
    intro j
    induction j with
    | zero =>
      intro hj hle
      rw [rP_first] at hle
      exact ⟨0, by omega, by rw [rP_first]; omega⟩
    | succ j ih =>
      intro hj hle
      by_cases h1 : q ≤ rP j
      · exact ih (by omega) h1
      · by_cases h2 : q = rP (j + 1)
        · exact ⟨j + 1, hj, h2.symm⟩
        · exact absurd ((gap_all j (by omega)).2 q hq (by omega) (by omega)) h61
  by_cases hl : q ≤ 65521
  · exact key 6536 (by omega) (by rw [rP_last]; exact hl)
  · exfalso
    have h3 := lq_all _ tail0 (q - 65522) (by omega)
    have h4 : npB (65522 + (q - 65522)) = true := h3
    rw [show 65522 + (q - 65522) = q from by omega] at h4
    have := npB_true h4 hq h11
    omega

/-- The order divides whatever exponent makes the three bases 1. -/
theorem RowOk.dvd {p L v k : Nat} (h : RowOk p L v) (hk : K3 p k) : L ∣ k := by
  have hg := K3.gcd hk h.k3
  obtain ⟨m, hm⟩ := Nat.gcd_dvd_right k L
  by_cases h1 : m = 1
  · subst h1
    rw [Nat.mul_one] at hm
    have := Nat.gcd_dvd_left k L
    rw [← hm] at this
    exact this
  · exfalso
    have hpos := h.pos
    have hm0 : m ≠ 0 := by
      intro e
      subst e
      simp at hm
      omega
    obtain ⟨l, hl, hd, _⟩ := least_factor m (by omega)
    obtain ⟨m', rfl⟩ := hd
    refine h.min l hl ⟨Nat.gcd k L * m', by rw [Nat.mul_left_comm]; exact hm⟩ ?_
    have h2 := hl.two
    have e : L / l = Nat.gcd k L * m' := by
      have h3 : L = l * (Nat.gcd k L * m') := by rw [Nat.mul_left_comm]; exact hm
      generalize Nat.gcd k L * m' = y at *
      rw [h3, Nat.mul_div_cancel_left _ (by omega)]
    rw [e]
    exact K3.of_dvd (Nat.dvd_mul_right _ _) hg

end Mr
