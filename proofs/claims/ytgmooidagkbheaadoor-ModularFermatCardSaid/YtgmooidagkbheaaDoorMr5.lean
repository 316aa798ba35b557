/-
  The search over the table is right: a number below 2^32 that passes the strong tests to the bases 2, 7 and 61, and that 2, 3, 5, 7 and 61 do not divide, is a prime. No program in sight.
-/
import Derived.Test.YtgmooidagkbheaaDoorMr4
namespace Mr

/-! ### The code of a row -/
theorem vex_eq {p a u J : Nat} (h2 : 2 ≤ p) (H : ∀ j, One p a (2 ^ j * u) ↔ J ≤ j) : ∀ (k j : Nat), j ≤ J → J ≤ j + k → vex p k (a ^ (2 ^ j * u) % p) = J - j
  | 0, j, h1, h3 => by
    show 0 = J - j
    omega
  | k + 1, j, h1, h3 => by
    show (Bool.rec (motive := fun _ => Nat) (Nat.succ (vex p k ((a ^ (2 ^ j * u) % p) * (a ^ (2 ^ j * u) % p) % p))) 0 (Nat.beq (a ^ (2 ^ j * u) % p) 1)) = J - j
    cases hb : Nat.beq (a ^ (2 ^ j * u) % p) 1 with
    | true =>
      have h4 : One p a (2 ^ j * u) := by
        unfold One
        rw [Nat.eq_of_beq_eq_true hb, Nat.mod_eq_of_lt (by omega : 1 < p)]
      have := (H j).1 h4
      show 0 = J - j
      omega
    | false =>
      have h4 : ¬ J ≤ j := fun hle => by
        have h5 := (H j).2 hle
        unfold One at h5
        rw [h5, Nat.mod_eq_of_lt (by omega : 1 < p)] at hb
        cases hb
      have e : (a ^ (2 ^ j * u) % p) * (a ^ (2 ^ j * u) % p) % p = a ^ (2 ^ (j + 1) * u) % p := by
        rw [← Nat.mul_mod, ← Nat.pow_two, ← Nat.pow_mul, Nat.pow_succ]
        congr 2
        rw [Nat.mul_right_comm]
      show Nat.succ (vex p k ((a ^ (2 ^ j * u) % p) * (a ^ (2 ^ j * u) % p) % p)) = J - j
      rw [e, vex_eq h2 H k (j + 1) (by omega) (by omega)]
      omega

/-- One code for all prime factors of a number that passes. -/
theorem Pass.code {n : Nat} (h : Pass n) : ∃ c, ∀ p L v, RowOk p L v → p ∣ n → v = c := by
  obtain ⟨h2, s, t, he, ht, a1, a2, a3⟩ := h
  obtain ⟨J1, H1⟩ := a1.level h2
  obtain ⟨J2, H2⟩ := a2.level h2
  obtain ⟨J3, H3⟩ := a3.level h2
  refine ⟨J1 + (32 * J2 + 1024 * J3), fun p L v hr hd => ?_⟩
  have hlo := hr.lo
  obtain ⟨e, u, hL, hu⟩ := two_split L hr.pos
  have he16 : e ≤ 16 := by
    refine Decidable.byContradiction fun hlt => ?_
    have h3 : 2 ^ 16 ≤ 2 ^ e := Nat.pow_le_pow_right (by omega) (by omega)
    have h4 : 2 ^ e * 1 ≤ 2 ^ e * u := Nat.mul_le_mul_left _ (by omega)
    have := hr.lt
    omega
  have hu' : L / Nat.gcd L 65536 = u := by
    rw [hL, show (65536 : Nat) = 2 ^ 16 from rfl, gcd_two_pow e u 16 hu he16, Nat.mul_div_cancel_left _ (Nat.pow_pos (by omega))]
  have one : ∀ a s, a ∣ a → One n a (2 ^ s * t) → One p a (2 ^ s * t) := fun a s _ h => One.dvd hd h
  have lev : ∀ a J, Sp s t n a → One p a L → (∀ j, One p a (2 ^ j * t) ↔ J ≤ j) → (∀ j, One p a (2 ^ j * u) ↔ J ≤ j) ∧ J ≤ e := by
    intro a J hs hk H
    have hn : One p a (2 ^ s * t) := One.dvd hd (hs.one h2)
    rw [hL] at hk
    have key : ∀ j, One p a (2 ^ j * u) ↔ J ≤ j := by
      intro j
      constructor
      · intro hj
        refine (H j).1 (One.of_dvd ?_ (One.gcd _ _ hj hn))
        exact dvd_mixed hu (Nat.gcd_dvd_left _ _) (Nat.gcd_dvd_right _ _)
      · intro hj
        refine One.of_dvd ?_ (One.gcd _ _ ((H j).2 hj) hk)
        exact dvd_mixed ht (Nat.gcd_dvd_left _ _) (Nat.gcd_dvd_right _ _)
    exact ⟨key, (key e).1 hk⟩
  have hp2 : p ≠ 2 := by omega
  obtain ⟨k1, l1⟩ := lev 2 J1 a1 hr.k3.1 (H1 p hr.pr hd hp2)
  obtain ⟨k2, l2⟩ := lev 7 J2 a2 hr.k3.2.1 (H2 p hr.pr hd hp2)
  obtain ⟨k3, l3⟩ := lev 61 J3 a3 hr.k3.2.2 (H3 p hr.pr hd hp2)
  have v1 := vex_eq (by omega) k1 17 0 (by omega) (by omega)
  have v2 := vex_eq (by omega) k2 17 0 (by omega) (by omega)
  have v3 := vex_eq (by omega) k3 17 0 (by omega) (by omega)
  rw [Nat.pow_zero, Nat.one_mul, ← f16_eq] at v1 v2 v3
  rw [hr.code, hu']
  show vex p 17 (f16 p 2 u) + (32 * vex p 17 (f16 p 7 u) + 1024 * vex p 17 (f16 p 61 u)) = _
  rw [v1, v2, v3]
  omega

/-- A prime factor's order divides n - 1. -/
theorem Pass.k3 {n p : Nat} (h : Pass n) (hd : p ∣ n) : K3 p (n - 1) :=
  ⟨One.dvd hd (h.one (.inl rfl)), One.dvd hd (h.one (.inr (.inl rfl))), One.dvd hd (h.one (.inr (.inr rfl)))⟩

/-! ### The candidates -/
theorem lt_two_pow_log2 (n : Nat) : n < 2 ^ (n.log2 + 1) := Nat.lt_log2_self

theorem en_true {i m j : Nat} (h : enB i = true) (hL : 0 < rL i) (hm : m = 1 + rL i * (j + 1)) (hN : rP i * m < 4294967296) (hp : 0 < rP i) (hg : Nat.gcd QQ m = 1) : fails (rP i * m) = true := by
  unfold enB at h
  rw [fc_eq, fc_eq] at h
  have h1 := lp_all _ _ h j (by
    refine Nat.lt_of_le_of_lt ?_ (lt_two_pow_log2 _)
    show j ≤ 4294967295 / rP i / rL i
    rw [Nat.le_div_iff_mul_le hL, Nat.le_div_iff_mul_le hp]
    have e1 : j * rL i ≤ m := by rw [hm, Nat.mul_comm, Nat.mul_succ]; omega
    have e2 := Nat.mul_le_mul_right (rP i) e1
    have e3 := Nat.mul_comm m (rP i)
    omega)
  have e : Nat.succ (rL i) + rL i * j = m := by rw [hm, Nat.mul_succ]; omega
  rw [e] at h1
  unfold cand at h1
  rcases bi_true h1 with ⟨_, h2⟩ | ⟨h2, _⟩
  · exact h2
  · rw [hg] at h2
    cases h2

theorem cands_true {d L s : Nat} (h : cands d L = true) (hd : 0 < d) (h1 : d * s % L = 1 % L) (hN : d * s < 4294967296) : fails (d * s) = true := by
  unfold cands at h
  rw [fc_eq] at h
  generalize eu 40 L (Nat.mod d L) L 1 0 = x at h
  rcases bi_true h with ⟨ha, h⟩ | ⟨_, h⟩
  case inr => cases h
  rcases bi_true h with ⟨hb, h⟩ | ⟨_, h⟩
  case inr => cases h
  have ha : d * x % L = 1 := Nat.eq_of_beq_eq_true ha
  have hb : x + 1 ≤ L := Nat.le_of_ble_eq_true hb
  have hL1 : L ≠ 1 := by
    intro e
    subst e
    omega
  have e1 : 1 % L = 1 := Nat.mod_eq_of_lt (by omega)
  have e2 : s % L = x := by
    have h3 : (x * (d * s)) % L = x % L := by rw [Nat.mul_mod, h1, ← Nat.mul_mod, Nat.mul_one]
    have h4 : (s * (d * x)) % L = s % L := by rw [Nat.mul_mod, ha, e1.symm, ← Nat.mul_mod, Nat.mul_one]
    have h5 : x * (d * s) = s * (d * x) := by rw [Nat.mul_left_comm, Nat.mul_left_comm s, Nat.mul_comm x s]
    rw [← h4, ← h5, h3, Nat.mod_eq_of_lt (by omega)]
  have e3 := Nat.div_add_mod s L
  rw [e2] at e3
  have h6 := lp_all _ _ h (s / L) (by
    refine Nat.lt_of_le_of_lt ?_ (lt_two_pow_log2 _)
    show s / L ≤ 4294967295 / d / L
    refine Nat.div_le_div_right ?_
    rw [Nat.le_div_iff_mul_le hd, Nat.mul_comm]
    omega)
  rw [show x + L * (s / L) = s from by omega] at h6
  exact h6

theorem pr_eq : ∀ l : List Nat, pr l = 12810 * prod (l.map rP)
  | [] => rfl
  | i :: l => by
    show rP i * pr l = 12810 * (rP i * prod (l.map rP))
    rw [pr_eq l, Nat.mul_left_comm]

theorem dvd_pow_sub_one {q a k : Nat} (ha : 1 ≤ a) (h : One q a k) : q ∣ a ^ k - 1 :=
  dvd_of_mod_eq (Nat.pos_of_ne_zero (fun e => by have := Nat.pow_pos (n := k) (show 0 < a by omega); omega)) h.symm

theorem gch_true {d q : Nat} (h : gchB d = true) (hd : 1 ≤ d) (hq : Pr q) (hN : d * q < 4294967296) (hp : Pass (d * q)) (h11 : 11 ≤ q) (h61 : q ≠ 61) : fails (d * q) = true := by
  unfold gchB at h
  rcases bi_true h with ⟨hm, hl⟩ | ⟨_, h⟩
  case inr => cases h
  have hm := Nat.eq_of_beq_eq_true hm
  have hl := la_all _ hl
  have h2 := hq.two
  have one : ∀ a, (a = 2 ∨ a = 7 ∨ a = 61) → q ∣ a ^ (d - 1) - 1 := by
    intro a ha
    have h1 := One.dvd (Nat.dvd_mul_left q d) (hp.one ha)
    have hna : ¬ q ∣ a := by
      intro hdv
      rcases ha with rfl | rfl | rfl
      · have := Nat.le_of_dvd (by omega) hdv; omega
      · have := Nat.le_of_dvd (by omega) hdv; omega
      · have := (pr_of_small 61 (by omega) (by decide)).2 q hdv
        omega
    have hf := (fermat hq hna).mul d
    have e : d * q - 1 = (q - 1) * d + (d - 1) := by
      obtain ⟨r, rfl⟩ : ∃ r, q = r + 1 := ⟨q - 1, by omega⟩
      rw [Nat.mul_succ, show r + 1 - 1 = r from rfl, Nat.mul_comm r d]
      omega
    rw [e] at h1
    exact dvd_pow_sub_one (by omega) (hf.sub h1)
  have hG : q ∣ pr (look d gtab) ^ 16 := by
    refine Nat.dvd_trans ?_ (Nat.dvd_of_mod_eq_zero hm)
    exact Nat.dvd_gcd (one 2 (.inl rfl)) (Nat.dvd_gcd (one 7 (.inr (.inl rfl))) (one 61 (.inr (.inr rfl))))
  have hR := hq.dvd_pow 16 hG
  rw [pr_eq] at hR
  rcases hq.dvd_mul hR with h3 | h3
  · exfalso
    have e : 12810 = prod [2, 3, 5, 7, 61] := by decide +kernel
    rw [e] at h3
    obtain ⟨x, hx, hdx⟩ := dvd_prod hq _ h3
    have h61' := pr_of_small 61 (by omega) (by decide)
    simp only [List.mem_cons, List.not_mem_nil, or_false] at hx
    rcases hx with rfl | rfl | rfl | rfl | rfl
    · have := Nat.le_of_dvd (by omega) hdx; omega
    · have := Nat.le_of_dvd (by omega) hdx; omega
    · have := Nat.le_of_dvd (by omega) hdx; omega
    · have := Nat.le_of_dvd (by omega) hdx; omega
    · exact h61 (hq.eq_of_dvd h61' hdx)
  · obtain ⟨x, hx, hdx⟩ := dvd_prod hq _ h3
    obtain ⟨i, hi, rfl⟩ := List.mem_map.1 hx
    rcases bi_true (hl i hi) with ⟨h4, h5⟩ | ⟨_, h5⟩
    · have h4 : i + 1 ≤ 6537 := Nat.le_of_ble_eq_true h4
      have := hq.eq_of_dvd (row_all i (by omega)).pr hdx
      rw [this]
      exact h5
    · cases h5

theorem lcmN_dvd {a b k : Nat} (ha : a ∣ k) (hb : b ∣ k) : lcmN a b ∣ k := Nat.lcm_dvd ha hb

theorem mod_one_of_dvd {n L : Nat} (hn : 1 ≤ n) (h : L ∣ n - 1) : n % L = 1 % L := by
  obtain ⟨m, hm⟩ := h
  rw [show n = 1 + L * m from by omega, Nat.add_mul_mod_self_left]

/-- The search below a product d of prime factors. -/
theorem dfs_true (c : Nat) : ∀ (k d L v i0 : Nat), dfs k d L v i0 = true → ∀ s, 2 ≤ s → d * s < 4294967296 → Pass (d * s) →
    (∀ q, Pr q → q ∣ d * s → 11 ≤ q ∧ q ≠ 61) → (∀ q, Pr q → q ∣ s → rP i0 ≤ q) → L ∣ d * s - 1 → 11 ≤ d → i0 < 6537 →
    (∀ p L' v', RowOk p L' v' → p ∣ d * s → v' = c) → v = c → False
  | 0, d, L, v, i0, h => by cases h
  | k + 1, d, L, v, i0, h => by
    intro s hs hN hp hq hi0 hL hd hi c1 hv
    have h' : bi (Nat.ble (4294967296 / (d * L)) 3000) (cands d L)
      (bi (gchB d) (bi (lp (fun i => visit (dfs k) d L v i0 i) 1 11 0) (lp (fun i => visit (dfs k) d L v i0 i) 1 8 2048) false) false) = true := h
    have hno : fails (d * s) = true → False := fun hf => by
      rw [fails_not hN hp] at hf
      cases hf
    have hds : 1 ≤ d * s := Nat.mul_pos (by omega) (by omega)
    rcases bi_true h' with ⟨_, hc⟩ | ⟨_, hb⟩
    · exact hno (cands_true hc (by omega) (mod_one_of_dvd hds hL) hN)
    rcases bi_true hb with ⟨hg, hb⟩ | ⟨_, hb⟩
    case inr => cases hb
    by_cases hsp : Pr s
    · have := hq s hsp (Nat.dvd_mul_left _ _)
      exact hno (gch_true hg (by omega) hsp hN hp this.1 this.2)
    · obtain ⟨r, m, hr, rfl, hrm, hmin⟩ := composite_factor s hs hsp
      have hrd : r ∣ d * (r * m) := Nat.dvd_trans (Nat.dvd_mul_right r m) (Nat.dvd_mul_left _ _)
      obtain ⟨r11, r61⟩ := hq r hr hrd
      have hrr : d * (r * r) ≤ d * (r * m) := Nat.mul_le_mul_left d (Nat.mul_le_mul_left r hrm)
      have h11r : 11 * (r * r) ≤ d * (r * r) := Nat.mul_le_mul_right _ hd
      have hr19 : r < 19764 := by
        refine Decidable.byContradiction fun hlt => ?_
        have : 19764 * 19764 ≤ r * r := Nat.mul_le_mul (by omega) (by omega)
        omega
      obtain ⟨i, hi1, hir⟩ := covered r hr r11 (by omega) r61
      have hrow := row_all i hi1
      rw [hir] at hrow
      have hi2 : i < 2304 := by
        refine Decidable.byContradiction fun hlt => ?_
        have h3 : 19764 < rP 2304 := of_decide_eq_true rP_2304
        rcases Nat.lt_or_ge 2304 i with h4 | h4
        · have := rP_mono h4 hi1
          omega
        · have : i = 2304 := by omega
          subst this
          omega
      have hge : i0 ≤ i := by
        refine Decidable.byContradiction fun hlt => ?_
        have h3 := rP_mono (i := i) (j := i0) (by omega) hi
        have h4 := hi0 r hr (Nat.dvd_mul_right r m)
        omega
      have hvi : rV i = v := by rw [hv]; exact c1 _ _ _ hrow hrd
      have hLi : rL i ∣ d * (r * m) - 1 := hrow.dvd (hp.k3 hrd)
      have cop : ∀ x y, x ∣ d * (r * m) - 1 → y ∣ d * (r * m) → Nat.gcd x y = 1 := by
        intro x y hx hy
        have h3 := Nat.dvd_trans (Nat.gcd_dvd_left x y) hx
        have h4 := Nat.dvd_trans (Nat.gcd_dvd_right x y) hy
        have h5 := Nat.dvd_sub h4 h3
        rw [show d * (r * m) - (d * (r * m) - 1) = 1 from by omega] at h5
        exact Nat.dvd_one.1 h5
      have hvis : visit (dfs k) d L v i0 i = true := by
        rcases bi_true hb with ⟨hx, hy⟩ | ⟨_, hy⟩
        · rcases Nat.lt_or_ge i 2048 with h3 | h3
          · have := lp_all _ _ hx i (by omega)
            rw [Nat.one_mul, Nat.zero_add] at this
            exact this
          · have := lp_all _ _ hy (i - 2048) (by omega)
            rw [Nat.one_mul, show 2048 + (i - 2048) = i from by omega] at this
            exact this
        · cases hy
      unfold visit at hvis
      rw [fc_eq, fc_eq, fc_eq] at hvis
      rw [hvi, hir] at hvis
      have t1 : Nat.beq v v = true := by rw [Nat.beq_eq]
      have t2 : Nat.ble i0 i = true := Nat.ble_eq_true_of_le hge
      have t3 : Nat.ble 4294967296 (Nat.mul d (Nat.mul r r)) = false := by
        cases hx : Nat.ble 4294967296 (Nat.mul d (Nat.mul r r)) with
        | false => rfl
        | true =>
          have hx : 4294967296 ≤ d * (r * r) := Nat.le_of_ble_eq_true hx
          omega
      have t4 : Nat.beq (Nat.gcd (rL i) d) 1 = true := by rw [cop _ _ hLi (Nat.dvd_mul_right _ _)]; rfl
      have t5 : Nat.beq (Nat.gcd L r) 1 = true := by rw [cop _ _ hL hrd]; rfl
      rw [t1, t2, t3, t4, t5] at hvis
      have hvis : dfs k (d * r) (lcmN L (rL i)) v i = true := hvis
      have e : d * (r * m) = d * r * m := by rw [Nat.mul_assoc]
      rw [e] at hN hp hq hL hLi c1
      refine dfs_true c k (d * r) (lcmN L (rL i)) v i hvis m (by have := hr.two; omega) hN hp hq (fun q hq1 hq2 => ?_) (lcmN_dvd hL hLi) ?_ hi1 c1 hv
      · rw [hir]
        exact hmin q hq1.two (Nat.dvd_trans hq2 (Nat.dvd_mul_left m r))
      · have : d * 1 ≤ d * r := Nat.mul_le_mul_left d (by omega)
        omega

theorem en_all (i : Nat) (h0 : 163 ≤ i) (h : i < 6537) : enB i = true := by
  have go : ∀ (k a : Nat), lp enB 1 k a = true → a ≤ i → i < a + 2 ^ k → enB i = true := by
    intro k a hr h1 h2
    have := lp_all k a hr (i - a) (by omega)
    rw [Nat.one_mul, show a + (i - a) = i from by omega] at this
    exact this
  by_cases a0 : i < 179
  · exact go 4 163 en0 (by omega) (by omega)
  by_cases a1 : i < 211
  · exact go 5 179 en1 (by omega) (by omega)
  by_cases a2 : i < 275
  · exact go 6 211 en2 (by omega) (by omega)
  by_cases a3 : i < 403
  · exact go 7 275 en3 (by omega) (by omega)
  by_cases a4 : i < 659
  · exact go 8 403 en4 (by omega) (by omega)
  by_cases a5 : i < 1171
  · exact go 9 659 en5 (by omega) (by omega)
  by_cases a6 : i < 2195
  · exact go 10 1171 en6 (by omega) (by omega)
  by_cases a7 : i < 4243
  · exact go 11 2195 en7 (by omega) (by omega)
  by_cases a8 : i < 6291
  · exact go 11 4243 en8 (by omega) (by omega)
  by_cases a9 : i < 6419
  · exact go 7 6291 en9 (by omega) (by omega)
  by_cases a10 : i < 6483
  · exact go 6 6419 en10 (by omega) (by omega)
  by_cases a11 : i < 6515
  · exact go 5 6483 en11 (by omega) (by omega)
  by_cases a12 : i < 6531
  · exact go 4 6515 en12 (by omega) (by omega)
  by_cases a13 : i < 6535
  · exact go 2 6531 en13 (by omega) (by omega)
  · exact go 1 6535 en14 (by omega) (by omega)

theorem root_all (i : Nat) (h : i < 163) : rootB i = true := by
  have go : ∀ (k a : Nat), lp rootB 1 k a = true → a ≤ i → i < a + 2 ^ k → rootB i = true := by
    intro k a hr h1 h2
    have := lp_all k a hr (i - a) (by omega)
    rw [Nat.one_mul, show a + (i - a) = i from by omega] at this
    exact this
  by_cases a0 : i < 1
  · exact go 0 0 root0 (by omega) (by omega)
  by_cases a1 : i < 17
  · exact go 4 1 root1 (by omega) (by omega)
  by_cases a2 : i < 33
  · exact go 4 17 root2 (by omega) (by omega)
  by_cases a3 : i < 65
  · exact go 5 33 root3 (by omega) (by omega)
  by_cases a4 : i < 97
  · exact go 5 65 root4 (by omega) (by omega)
  by_cases a5 : i < 161
  · exact go 6 97 root5 (by omega) (by omega)
  · exact go 1 161 root6 (by omega) (by omega)

/-- ████ Strong tests to the bases 2, 7, 61 expose every composite number below 2^32. -/
theorem pass_prime (n : Nat) (hN : n < 4294967296) (h : Pass n) (hq : ∀ q, Pr q → q ∣ n → 11 ≤ q ∧ q ≠ 61) : Pr n := by
  refine Classical.byContradiction fun hc => ?_
  have h2 := h.1
  obtain ⟨p, m, hp, rfl, hpm, hmin⟩ := composite_factor n h2 hc
  have hpd : p ∣ p * m := Nat.dvd_mul_right p m
  obtain ⟨h11, h61⟩ := hq p hp hpd
  have hpp : p * p ≤ p * m := Nat.mul_le_mul_left p hpm
  have hp16 : p < 65536 := by
    refine Decidable.byContradiction fun hlt => ?_
    have : 65536 * 65536 ≤ p * p := Nat.mul_le_mul (by omega) (by omega)
    omega
  obtain ⟨i, hi, hip⟩ := covered p hp h11 hp16 h61
  have hrow := row_all i hi
  rw [hip] at hrow
  have hL := hrow.dvd (h.k3 hpd)
  have hno : fails (p * m) = true → False := fun hf => by
    rw [fails_not hN h] at hf
    cases hf
  by_cases hsmall : i < 163
  · have hr := root_all i hsmall
    unfold rootB at hr
    rw [fc_eq, fc_eq, fc_eq, hip] at hr
    obtain ⟨c, hc⟩ := h.code
    exact dfs_true c 10 p (rL i) (rV i) i hr m (by have := hp.two; omega) hN h hq (fun q hq1 hq2 => by rw [hip]; exact hmin q hq1.two (Nat.dvd_trans hq2 (Nat.dvd_mul_left m p))) hL h11 hi hc (hc _ _ _ hrow hpd)
  · have hen := en_all i (by omega) hi
    have h1009 : 1009 ≤ p := by
      rcases Nat.lt_or_ge 163 i with h3 | h3
      · have := rP_mono h3 hi
        rw [rP_1009, hip] at this
        omega
      · have : i = 163 := by omega
        subst this
        rw [rP_1009] at hip
        omega
    -- the order divides p - 1 and n - 1, so m - 1
    have hna : ∀ a, (a = 2 ∨ a = 7 ∨ a = 61) → ¬ p ∣ a := by
      intro a ha hd
      have : 0 < a := by omega
      have := Nat.le_of_dvd this hd
      omega
    have hLp : rL i ∣ p - 1 := hrow.dvd ⟨fermat hp (hna 2 (by omega)), fermat hp (hna 7 (by omega)), fermat hp (hna 61 (by omega))⟩
    have hLm : rL i ∣ m - 1 := by
      have e : p * m - 1 = (p - 1) * m + (m - 1) := by
        obtain ⟨r, rfl⟩ : ∃ r, p = r + 1 := ⟨p - 1, by omega⟩
        rw [Nat.succ_mul, show r + 1 - 1 = r from rfl]
        omega
      rw [e] at hL
      exact (Nat.dvd_add_iff_right (Nat.dvd_trans hLp (Nat.dvd_mul_right _ _))).2 hL
    obtain ⟨j, hj⟩ := hLm
    have hj0 : j ≠ 0 := by
      intro e
      subst e
      simp at hj
      omega
    obtain ⟨j', rfl⟩ : ∃ j', j = j' + 1 := ⟨j - 1, by omega⟩
    have hg : Nat.gcd QQ m = 1 := by
      refine Decidable.byContradiction fun hne => ?_
      have hg0 : Nat.gcd QQ m ≠ 0 := by
        intro e
        have := Nat.eq_zero_of_gcd_eq_zero_right e
        omega
      obtain ⟨q, hq1, hq2, _⟩ := least_factor (Nat.gcd QQ m) (by omega)
      have h3 := prime_qq hq1 (Nat.dvd_trans hq2 (Nat.gcd_dvd_left _ _))
      have h4 := hmin q hq1.two (Nat.dvd_trans (Nat.dvd_trans hq2 (Nat.gcd_dvd_right _ _)) (Nat.dvd_mul_left m p))
      omega
    have := en_true hen hrow.pos (show m = 1 + rL i * (j' + 1) by omega) (by rw [hip]; exact hN) (by omega) hg
    rw [hip] at this
    exact hno this

end Mr
