/-
  division.estimate: a digit of a quotient, or one more.
-/
import Derived.Test.YtgmooidagkbheaaLen
import Derived.Test.YtgmooidagkbheaaShr
import Derived.Deep.QuietTactic
import Derived.BigQuiet
namespace Go.Proofs.Ytgmooidagkbheaa
open Go.RowKit Go.Proofs.YtgmooidagkbheaaW.PrintWords
set_option linter.unusedVariables false

set_option maxHeartbeats 1000000 in
theorem div32_drew (hi lo y : Nat) (hlo : lo < 4294967296) (hy : y < 4294967296) (h : hi < y) (w : World) :
    Calls Try.prog 96 #[.int .u32 hi, .int .u32 lo, .int .u32 y] w fun e w' => e = .returned (.tuple #[.int .u32 (((hi * 4294967296 + lo) / y : Nat) : Int), .int .u32 (((hi * 4294967296 + lo) % y : Nat) : Int)]) ∧ ∃ m, w' = w.drewN m := by
  have c1 : ((y : Int) != 0) = true := by simp; omega
  have c2 : decide (y ≤ hi) = false := by simp; omega
  have HO := Lib.hid (or_add hi lo (by omega) hlo)
  go_enter Try.func96, Try.ntmps96
  go_wp2_with fail
  rw [HO.out]
  have hq : (hi * 4294967296 + lo) / y < 4294967296 := by
    rw [Nat.div_lt_iff_lt_mul (by omega)]
    have : (hi + 1) * 4294967296 ≤ y * 4294967296 := Nat.mul_le_mul_right _ h
    have e := Nat.mul_comm y 4294967296
    omega
  have hr := Nat.mod_lt (hi * 4294967296 + lo) (show 0 < y by omega)
  have q1 : ((hi * 4294967296 + lo : Nat) : Int) / (y : Int) = (((hi * 4294967296 + lo) / y : Nat) : Int) := (Int.natCast_ediv _ _).symm
  have q2 : ((hi * 4294967296 + lo : Nat) : Int) % (y : Int) = (((hi * 4294967296 + lo) % y : Nat) : Int) := (Int.natCast_emod _ _).symm
  have hn : hi * 4294967296 + lo < 18446744073709551616 := by omega
  generalize hgn : hi * 4294967296 + lo = n at *
  generalize hgq : n / y = q at *
  generalize hgr : n % y = r at *
  have HN := Lib.hid hgn
  have HQ := Lib.hid hgq
  have HR := Lib.hid hgr
  clear hgn hgq hgr
  have t1 : Int.tdiv (n : Int) y = (q : Int) := by rw [Int.tdiv_eq_ediv_of_nonneg (by omega)]; exact q1
  have t2 : Int.tmod (n : Int) y = (r : Int) := by rw [Int.tmod_eq_emod_of_nonneg (by omega)]; exact q2
  have z1 : ((y : Int) == 0) = false := by simp; omega
  have s1 : (q : Int) % 4294967296 = q := by omega
  have s2 : (r : Int) % 4294967296 = r := by omega
  clear HO c2 hq hn hlo
  go_quiet (fail)
  go_wp2_with fail
  go_ret2
  exact ⟨by rw [HN.out, HQ.out, HR.out]; rfl, _, rfl⟩

/-- The digit that three digits and two give. -/
def est (u2 u1 u0 v1 v2 : Nat) : Nat := min 4294967295 (((u2 * 4294967296 + u1) * 4294967296 + u0) / (v1 * 4294967296 + v2))

/-- What the loop of estimate keeps. -/
structure EsInv (N u0 v1 v2 E q r c : Nat) : Prop where mk ::
  dig : q ≤ 4294967295
  rest : r < 4294967296
  car : c ≤ 1
  eq : q * v1 + (r + c * 4294967296) = N
  ge : E ≤ q

theorem es_le_b (B N u0 v1 v2 q r : Nat) (hv : 0 < v1 * B + v2) (he : q * v1 + r = N) : q * v2 ≤ r * B + u0 ↔ q ≤ (N * B + u0) / (v1 * B + v2) := by
  rw [Nat.le_div_iff_mul_le hv]
  have e1 : q * (v1 * B + v2) = q * v1 * B + q * v2 := by rw [Nat.mul_add, ← Nat.mul_assoc]
  have e2 : N * B = q * v1 * B + r * B := by rw [← he, Nat.add_mul]
  rw [e1, e2]
  omega
theorem es_le {N u0 v1 v2 q r : Nat} (hv : 0 < v1) (he : q * v1 + r = N) : q * v2 ≤ r * 4294967296 + u0 ↔ q ≤ (N * 4294967296 + u0) / (v1 * 4294967296 + v2) :=
  es_le_b _ _ _ _ _ _ _ (by omega) he
theorem es_start_b (B N u0 v1 v2 : Nat) (hv : 0 < v1) (h0 : u0 < B) : (N * B + u0) / (v1 * B + v2) ≤ N / v1 := by
  have hr := Nat.mod_lt N hv
  have e := Nat.div_add_mod N v1
  have hp : 0 < v1 * B + v2 := by
    have := Nat.mul_pos hv (show 0 < B by omega)
    omega
  apply Nat.le_of_lt_succ
  rw [Nat.div_lt_iff_lt_mul hp]
  generalize N / v1 = Q at *
  generalize N % v1 = s at *
  have e1 : (Q + 1) * (v1 * B + v2) = (Q + 1) * v1 * B + (Q + 1) * v2 := by rw [Nat.mul_add, ← Nat.mul_assoc]
  have e2 : N + 1 ≤ (Q + 1) * v1 := by rw [Nat.add_mul, Nat.mul_comm Q, Nat.one_mul]; omega
  have e3 := Nat.mul_le_mul_right B e2
  rw [Nat.add_mul, Nat.one_mul] at e3
  show _ < (Q + 1) * (v1 * B + v2)
  rw [e1]
  omega

theorem EsInv.done {u2 u1 u0 v1 v2 q r : Nat} (h : EsInv (u2 * 4294967296 + u1) u0 v1 v2 (est u2 u1 u0 v1 v2) q r 0) (hv : 0 < v1) (hc : q * v2 ≤ r * 4294967296 + u0) : q = est u2 u1 u0 v1 v2 := by
  have h1 := (es_le (u0 := u0) (v2 := v2) hv (by have := h.eq; omega)).1 hc
  have h2 := h.dig
  have h3 := h.ge
  unfold est at h3 ⊢
  omega
theorem EsInv.over {u2 u1 u0 v1 v2 q r : Nat} (h : EsInv (u2 * 4294967296 + u1) u0 v1 v2 (est u2 u1 u0 v1 v2) q r 1) (hv : 0 < v1) (hv2 : v2 < 4294967296) : q = est u2 u1 u0 v1 v2 := by
  have h1 := (es_le (N := u2 * 4294967296 + u1) (q := q) (r := r + 4294967296) (u0 := u0) (v2 := v2) hv (by have := h.eq; omega)).1 (by
    have h4 : q * v2 ≤ 18446744065119617025 := Nat.le_trans (Nat.mul_le_mul h.dig (show v2 ≤ 4294967295 by omega)) (by decide)
    generalize q * v2 = qv at *
    clear h
    omega)
  have h2 := h.dig
  have h3 := h.ge
  unfold est at h3 ⊢
  omega
theorem EsInv.more {u2 u1 u0 v1 v2 q r : Nat} (h : EsInv (u2 * 4294967296 + u1) u0 v1 v2 (est u2 u1 u0 v1 v2) q r 0) (hv : 0 < v1) (hv1 : v1 < 4294967296) (hc : ¬ q * v2 ≤ r * 4294967296 + u0) :
    0 < q ∧ EsInv (u2 * 4294967296 + u1) u0 v1 v2 (est u2 u1 u0 v1 v2) (q - 1) ((r + v1) % 4294967296) ((r + v1) / 4294967296) := by
  have h1 := mt (es_le (u0 := u0) (v2 := v2) hv (by have := h.eq; omega)).2 hc
  have h0 : 0 < q := by
    rcases Nat.eq_zero_or_pos q with e | e
    · subst e
      exact absurd (by omega) hc
    · exact e
  have h2 := h.dig
  have h3 := h.ge
  have h4 := h.rest
  refine ⟨h0, by omega, Nat.mod_lt _ (by decide), by omega, ?_, ?_⟩
  · have e := h.eq
    have e2 : q * v1 = (q - 1) * v1 + v1 := by
      have : (q - 1 + 1) * v1 = (q - 1) * v1 + v1 := Nat.succ_mul _ _
      rwa [show q - 1 + 1 = q from by omega] at this
    have := Nat.mod_add_div (r + v1) 4294967296
    omega
  · unfold est at h3 ⊢
    omega
theorem es_test (a r u0 : Nat) (hu : u0 < 4294967296) : (a ≤ r * 4294967296 + u0) ↔ (a / 4294967296 < r ∨ (a / 4294967296 = r ∧ a % 4294967296 ≤ u0)) := by omega
theorem es_start1 (u2 u1 u0 v1 v2 : Nat) (h : u2 = v1) (h1 : u1 < 4294967296) (hv1 : v1 < 4294967296) :
    EsInv (u2 * 4294967296 + u1) u0 v1 v2 (est u2 u1 u0 v1 v2) 4294967295 ((u1 + v1) % 4294967296) ((u1 + v1) / 4294967296) := by
  refine ⟨by omega, Nat.mod_lt _ (by decide), by omega, ?_, Nat.min_le_left _ _⟩
  have := Nat.mod_add_div (u1 + v1) 4294967296
  omega
theorem es_start_n (N u0 v1 v2 E : Nat) (hv : 0 < v1) (hv1 : v1 < 4294967296) (hq : N / v1 < 4294967296) (hE : E ≤ N / v1) : EsInv N u0 v1 v2 E (N / v1) (N % v1) 0 := by
  have hr := Nat.mod_lt N hv
  have e := Nat.div_add_mod N v1
  rw [Nat.mul_comm] at e
  generalize N / v1 = Q at *
  generalize N % v1 = s at *
  exact ⟨by omega, by omega, by omega, by omega, hE⟩
theorem est_le (u2 u1 u0 v1 v2 : Nat) (hv : 0 < v1) (h0 : u0 < 4294967296) : est u2 u1 u0 v1 v2 ≤ (u2 * 4294967296 + u1) / v1 :=
  Nat.le_trans (Nat.min_le_right _ _) (es_start_b _ _ _ _ _ hv h0)
theorem es_start2 (u2 u1 u0 v1 v2 : Nat) (h : u2 < v1) (h1 : u1 < 4294967296) (h0 : u0 < 4294967296) (hv1 : v1 < 4294967296) :
    EsInv (u2 * 4294967296 + u1) u0 v1 v2 (est u2 u1 u0 v1 v2) ((u2 * 4294967296 + u1) / v1) ((u2 * 4294967296 + u1) % v1) 0 :=
  es_start_n _ _ _ _ _ (by omega) hv1 (ds_quot h h1) (est_le u2 u1 u0 v1 v2 (by omega) h0)

set_option maxHeartbeats 4000000 in
set_option maxRecDepth 100000 in
theorem estimate_calls (u2 u1 u0 v1 v2 : Nat) (h2 : u2 ≤ v1) (hu1 : u1 < 4294967296) (hu0 : u0 < 4294967296) (hv : 0 < v1) (hv1 : v1 < 4294967296) (hv2 : v2 < 4294967296) (w : World) :
    Calls Try.prog 75 #[.int .u32 u2, .int .u32 u1, .int .u32 u0, .int .u32 v1, .int .u32 v2] w fun e w' => e = .returned (.int .u32 (est u2 u1 u0 v1 v2 : Nat)) ∧ ∃ m, w' = w.drewN m := by
  have HU0 := Lib.hid hu0
  have HV := Lib.hid hv
  have HV1 := Lib.hid hv1
  have HV2 := Lib.hid hv2
  have HMU := Lib.hid (fun q w (h : q < 4294967296) => mul32_calls q v2 h hv2 w)
  have HAD := Lib.hid (fun r w (h : r < 4294967296) => add32_calls r v1 0 h hv1 (by omega) w)
  have HDO := Lib.hid (fun (q r : Nat) (h : EsInv (u2 * 4294967296 + u1) u0 v1 v2 (est u2 u1 u0 v1 v2) q r 0) (hc : q * v2 ≤ r * 4294967296 + u0) => h.done hv hc)
  have HOV := Lib.hid (fun (q r : Nat) (h : EsInv (u2 * 4294967296 + u1) u0 v1 v2 (est u2 u1 u0 v1 v2) q r 1) => h.over hv hv2)
  have HMO := Lib.hid (fun (q r : Nat) (h : EsInv (u2 * 4294967296 + u1) u0 v1 v2 (est u2 u1 u0 v1 v2) q r 0) (hc : ¬ q * v2 ≤ r * 4294967296 + u0) => h.more hv hv1 hc)
  by_cases h3 : u2 = v1
  · have HI := Lib.hid (es_start1 u2 u1 u0 v1 v2 h3 hu1 hv1)
    have HA := Lib.hid (HAD.out u1 w hu1)
    have c0 : decide (v1 ≤ u2) = true := decide_eq_true (by omega)
    have h4 : v1 ≤ u2 := by omega
    clear h2 hu1 hu0 hv hv1 hv2 h3
    rw [Nat.add_zero] at HA
    generalize est u2 u1 u0 v1 v2 = E at *
    generalize u2 * 4294967296 + u1 = N at *
    generalize (u1 + v1) % 4294967296 = r0 at *
    generalize (u1 + v1) / 4294967296 = k0 at *
    go_enter Try.func75, Try.ntmps75
    go_wp2_with fail
    refine (HA.out).mono ?_
    rintro e w1 ⟨rfl, rfl⟩
    clear h4 c0
    go_wp2_with fail
    have HWW : Hid (∃ m, w = w.drewN m) := Lib.hid ⟨0, rfl⟩
    go_loopw [11, 12, 13] (fun x y z wr => ∃ q r c : Nat, x = .int .u32 q ∧ y = .int .u32 r ∧ z = .int .u32 c ∧ Hid (EsInv N u0 v1 v2 E q r c) ∧ w = wr) (fun x y z wr => (intOf x).toNat)
    case atStart => exact ⟨4294967295, r0, k0, rfl, rfl, rfl, HI, rfl⟩
    case round =>
      clear HI HA
      obtain ⟨q, r, c, rfl, rfl, rfl, HI, rfl⟩ := hrel
      have hc1 := HI.out.car
      have hc2 : c = 0 ∨ c = 1 := by omega
      clear hc1
      rcases hc2 with rfl | rfl
      · have hq3 : q < 4294967296 := by have := HI.out.dig; omega
        have HM := Lib.hid (HMU.out q (w) hq3)
        by_cases hc : q * v2 ≤ r * 4294967296 + u0
        · have HE := Lib.hid (HDO.out q r HI.out hc)
          have hts := (es_test (q * v2) r u0 HU0.out).1 hc
          clear hc
          generalize q * v2 / 4294967296 = hi at *
          generalize q * v2 % 4294967296 = lo at *
          rcases hts with h1 | ⟨h1, h2⟩
          · have t1 : decide (hi < r) = true := decide_eq_true h1
            clear h1
            go_wp2_with fail
            refine (HM.out).mono ?_
            rintro e w1 ⟨rfl, rfl⟩
            go_wp2_with fail
            go_ret
            exact ⟨by rw [← HE.out]; rfl, HWW.out⟩
          · have t1 : decide (hi < r) = false := decide_eq_false (by omega)
            have t2 : ((hi : Int) == (r : Int)) = true := by rw [h1]; simp
            have t3 : decide (lo ≤ u0) = true := decide_eq_true h2
            clear h1 h2
            go_wp2_with fail
            refine (HM.out).mono ?_
            rintro e w1 ⟨rfl, rfl⟩
            go_wp2_with fail
            go_ret
            exact ⟨by rw [← HE.out]; rfl, HWW.out⟩
        · obtain ⟨h0, hm⟩ := HMO.out q r HI.out hc
          have HN := Lib.hid hm
          have hts := mt (es_test (q * v2) r u0 HU0.out).2 hc
          obtain ⟨q1, hq1⟩ : ∃ q1, q - 1 = q1 := ⟨_, rfl⟩
          have HQ1 := Lib.hid hq1
          have s1 : ((q : Int) - 1) % 4294967296 = (q1 : Int) := by omega
          have HAA := Lib.hid (HAD.out r (w) HI.out.rest)
          have hlt : Hid (q1 < q) := Lib.hid (by omega)
          rw [hq1] at HN
          rw [Nat.add_zero] at HAA
          clear hc hm hq1 h0 hq3
          generalize (r + v1) % 4294967296 = r2 at *
          generalize (r + v1) / 4294967296 = k2 at *
          generalize q * v2 / 4294967296 = hi at *
          generalize q * v2 % 4294967296 = lo at *
          have t1 : decide (hi < r) = false := decide_eq_false (by omega)
          by_cases h1 : hi = r
          · have t2 : ((hi : Int) == (r : Int)) = true := by rw [h1]; simp
            have t3 : decide (lo ≤ u0) = false := decide_eq_false (by omega)
            clear h1 hts
            go_wp2_with fail
            refine (HM.out).mono ?_
            rintro e w1 ⟨rfl, rfl⟩
            go_wp2_with fail
            refine (HAA.out).mono ?_
            rintro e w1 ⟨rfl, rfl⟩
            go_wp2_with fail
            go_roundw
            case rel => exact ⟨q1, r2, k2, rfl, rfl, rfl, HN, trivial⟩
            case measure => have := hlt.out; simp [intOf]; omega
          · have t2 : ((hi : Int) == (r : Int)) = false := by simp; omega
            clear h1 hts
            go_wp2_with fail
            refine (HM.out).mono ?_
            rintro e w1 ⟨rfl, rfl⟩
            go_wp2_with fail
            refine (HAA.out).mono ?_
            rintro e w1 ⟨rfl, rfl⟩
            go_wp2_with fail
            go_roundw
            case rel => exact ⟨q1, r2, k2, rfl, rfl, rfl, HN, trivial⟩
            case measure => have := hlt.out; simp [intOf]; omega
      · have HE := Lib.hid (HOV.out q r HI.out)
        go_wp2_with fail
        go_ret
        exact ⟨by rw [← HE.out]; rfl, HWW.out⟩
  · have HI := Lib.hid (es_start2 u2 u1 u0 v1 v2 (by omega) hu1 hu0 hv1)
    have HA := Lib.hid (div32_drew u2 u1 v1 hu1 hv1 (by omega) w)
    have c0 : decide (v1 ≤ u2) = false := decide_eq_false (by omega)
    clear h2 hu1 hu0 hv hv1 hv2 h3
    generalize est u2 u1 u0 v1 v2 = E at *
    generalize u2 * 4294967296 + u1 = N at *
    generalize N / v1 = q0 at *
    generalize N % v1 = r0 at *
    go_enter Try.func75, Try.ntmps75
    go_wp2_with fail
    refine (HA.out).mono ?_
    rintro e w1 ⟨rfl, m, rfl⟩
    clear c0
    go_wp2_with fail
    have HWW : Hid (∃ m', w.drewN m = w.drewN m') := Lib.hid ⟨m, rfl⟩
    go_loopw [11, 12, 13] (fun x y z wr => ∃ q r c : Nat, x = .int .u32 q ∧ y = .int .u32 r ∧ z = .int .u32 c ∧ Hid (EsInv N u0 v1 v2 E q r c) ∧ w.drewN m = wr) (fun x y z wr => (intOf x).toNat)
    case atStart => exact ⟨q0, r0, 0, rfl, rfl, rfl, HI, rfl⟩
    case round =>
      clear HI HA
      obtain ⟨q, r, c, rfl, rfl, rfl, HI, rfl⟩ := hrel
      have hc1 := HI.out.car
      have hc2 : c = 0 ∨ c = 1 := by omega
      clear hc1
      rcases hc2 with rfl | rfl
      · have hq3 : q < 4294967296 := by have := HI.out.dig; omega
        have HM := Lib.hid (HMU.out q (w.drewN m) hq3)
        by_cases hc : q * v2 ≤ r * 4294967296 + u0
        · have HE := Lib.hid (HDO.out q r HI.out hc)
          have hts := (es_test (q * v2) r u0 HU0.out).1 hc
          clear hc
          generalize q * v2 / 4294967296 = hi at *
          generalize q * v2 % 4294967296 = lo at *
          rcases hts with h1 | ⟨h1, h2⟩
          · have t1 : decide (hi < r) = true := decide_eq_true h1
            clear h1
            go_wp2_with fail
            refine (HM.out).mono ?_
            rintro e w1 ⟨rfl, rfl⟩
            go_wp2_with fail
            go_ret
            exact ⟨by rw [← HE.out]; rfl, HWW.out⟩
          · have t1 : decide (hi < r) = false := decide_eq_false (by omega)
            have t2 : ((hi : Int) == (r : Int)) = true := by rw [h1]; simp
            have t3 : decide (lo ≤ u0) = true := decide_eq_true h2
            clear h1 h2
            go_wp2_with fail
            refine (HM.out).mono ?_
            rintro e w1 ⟨rfl, rfl⟩
            go_wp2_with fail
            go_ret
            exact ⟨by rw [← HE.out]; rfl, HWW.out⟩
        · obtain ⟨h0, hm⟩ := HMO.out q r HI.out hc
          have HN := Lib.hid hm
          have hts := mt (es_test (q * v2) r u0 HU0.out).2 hc
          obtain ⟨q1, hq1⟩ : ∃ q1, q - 1 = q1 := ⟨_, rfl⟩
          have HQ1 := Lib.hid hq1
          have s1 : ((q : Int) - 1) % 4294967296 = (q1 : Int) := by omega
          have HAA := Lib.hid (HAD.out r (w.drewN m) HI.out.rest)
          have hlt : Hid (q1 < q) := Lib.hid (by omega)
          rw [hq1] at HN
          rw [Nat.add_zero] at HAA
          clear hc hm hq1 h0 hq3
          generalize (r + v1) % 4294967296 = r2 at *
          generalize (r + v1) / 4294967296 = k2 at *
          generalize q * v2 / 4294967296 = hi at *
          generalize q * v2 % 4294967296 = lo at *
          have t1 : decide (hi < r) = false := decide_eq_false (by omega)
          by_cases h1 : hi = r
          · have t2 : ((hi : Int) == (r : Int)) = true := by rw [h1]; simp
            have t3 : decide (lo ≤ u0) = false := decide_eq_false (by omega)
            clear h1 hts
            go_wp2_with fail
            refine (HM.out).mono ?_
            rintro e w1 ⟨rfl, rfl⟩
            go_wp2_with fail
            refine (HAA.out).mono ?_
            rintro e w1 ⟨rfl, rfl⟩
            go_wp2_with fail
            go_roundw
            case rel => exact ⟨q1, r2, k2, rfl, rfl, rfl, HN, trivial⟩
            case measure => have := hlt.out; simp [intOf]; omega
          · have t2 : ((hi : Int) == (r : Int)) = false := by simp; omega
            clear h1 hts
            go_wp2_with fail
            refine (HM.out).mono ?_
            rintro e w1 ⟨rfl, rfl⟩
            go_wp2_with fail
            refine (HAA.out).mono ?_
            rintro e w1 ⟨rfl, rfl⟩
            go_wp2_with fail
            go_roundw
            case rel => exact ⟨q1, r2, k2, rfl, rfl, rfl, HN, trivial⟩
            case measure => have := hlt.out; simp [intOf]; omega
      · have HE := Lib.hid (HOV.out q r HI.out)
        go_wp2_with fail
        go_ret
        exact ⟨by rw [← HE.out]; rfl, HWW.out⟩

end Go.Proofs.Ytgmooidagkbheaa
