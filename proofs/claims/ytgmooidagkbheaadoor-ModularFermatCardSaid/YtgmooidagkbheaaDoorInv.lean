/-
  The printed functions modular.Inverse and the reference's Gcd answer as numbers do: the inverse modulo m where there is one.
-/
import Derived.Test.YtgmooidagkbheaaDoorPw
namespace Go.Proofs.YtgmooidagkbheaaDoor
open Go.RowKit Go.Proofs.YtgmooidagkbheaaDoorW.PrintWords
open PModularInverse
set_option linter.unusedVariables false

theorem gcd_loop : ∀ (b k a : Nat), b < k → cylinderref07_Gcd.l0 k (a : Int) (b : Int) = some ((Nat.gcd a b : Nat) : Int) := by
  intro b
  induction b using Nat.strongRecOn with
  | _ b ih =>
    intro k a hk
    obtain ⟨k, rfl⟩ : ∃ j, k = j + 1 := ⟨k - 1, by omega⟩
    unfold cylinderref07_Gcd.l0
    by_cases hb : b = 0
    · subst hb
      rw [if_pos (by omega)]
      simp
    · rw [if_neg (by omega)]
      have e : (Int.tmod (a : Int) (b : Int)) = ((a % b : Nat) : Int) := by rw [Int.tmod_eq_emod_of_nonneg (by omega)]; push_cast; rfl
      have hlt := Nat.mod_lt a (show 0 < b by omega)
      rw [e, ih (a % b) hlt k b (by omega)]
      congr 2
      rw [Nat.gcd_comm b, ← Nat.gcd_rec, Nat.gcd_comm]

theorem gcd_calls (a b : Nat) (w : World) :
    Calls Tryd.prog 20 #[.int .u64 a, .int .u64 b] w fun e w' => e = .returned (.int .u64 ((Nat.gcd a b : Nat) : Int)) ∧ Below w.heap.size w w' :=
  (cylinderref07_Gcd.calls (b + 1) _ _ _ w (gcd_loop b (b + 1) a (by omega))).mono fun _ _ h => ⟨h.1, h.2.below⟩

theorem wrap64_id (n : Int) (h : -9223372036854775808 ≤ n) (h1 : n < 9223372036854775808) : wrap64 n = n := by unfold wrap64; omega

/-- What Inverse answers. -/
def InvOk (a M g : Nat) (res : Int × Int) : Prop :=
  (g = 1 → ∃ z : Nat, res = ((z : Int), 0) ∧ z < M ∧ a * z % M = 1 % M) ∧ (g ≠ 1 → res = (0, 5))

theorem inv_loop (a M : Nat) (h0 : 0 < M) (hM : M < 4294967296) : ∀ (s k r : Nat) (x y : Int), s < k → s ≤ M → r ≤ M →
    (M : Int) ∣ x * a - r → (M : Int) ∣ y * a - s → -(M : Int) ≤ x → x ≤ M → -(M : Int) ≤ y → y ≤ M →
    ((0 ≤ x ∧ y ≤ 0 ∧ (s : Int) * x - r * y = M) ∨ (x ≤ 0 ∧ 0 ≤ y ∧ (s : Int) * x - r * y = -(M : Int))) →
    ∃ res, modular_Inverse.l0 k (M : Int) (r : Int) (s : Int) x y = some res ∧ InvOk a M (Nat.gcd r s) res := by
  intro s
  induction s using Nat.strongRecOn with
  | _ s ih =>
    intro k r x y hk hs hr dx dy x0 x1 y0 y1 hE
    obtain ⟨k, rfl⟩ : ∃ j, k = j + 1 := ⟨k - 1, by omega⟩
    unfold modular_Inverse.l0
    by_cases hz : s = 0
    · subst hz
      rw [if_pos (by omega)]
      rw [Nat.gcd_zero_right]
      by_cases h1 : r = 1
      · subst h1
        rw [if_pos (by omega), if_neg (by omega)]
        refine ⟨_, rfl, fun _ => ?_, fun h => absurd rfl h⟩
        have t1 : Int.tmod x M < M := Int.tmod_lt_of_pos x (by omega)
        have t2 : -(M : Int) < Int.tmod x M := by
          have := Int.tmod_lt_of_pos (-x) (show (0 : Int) < M by omega)
          rw [Int.neg_tmod] at this
          omega
        rw [wrap64_id _ (by omega) (by omega)]
        generalize ht : Int.tmod x M = t at *
        rw [Int.tmod_eq_emod_of_nonneg (by omega : 0 ≤ t + (M : Int))]
        have e0 := Int.emod_nonneg (t + (M : Int)) (show (M : Int) ≠ 0 by omega)
        have e1 := Int.emod_lt_of_pos (t + (M : Int)) (show (0 : Int) < M by omega)
        obtain ⟨z, hzz⟩ := Int.eq_ofNat_of_zero_le e0
        refine ⟨z, ?_, by omega, ?_⟩
        · rw [hzz]
          congr 1
          omega
        · have dz : (M : Int) ∣ (z : Int) - x := by
            have d1 : (M : Int) ∣ x - t := by
              rw [← ht]
              exact Int.dvd_self_sub_tmod
            have d2 : (M : Int) ∣ (t + M) - z := by
              rw [← hzz]
              exact Int.dvd_self_sub_emod
            have : (z : Int) - x = M - ((t + M) - z) - (x - t) := by omega
            rw [this]
            exact Int.dvd_sub (Int.dvd_sub (Int.dvd_refl _) d2) d1
          have d3 : (M : Int) ∣ (a : Int) * z - 1 := by
            have e : (a : Int) * z - 1 = (z - x) * a + (x * a - 1) := by rw [Int.sub_mul, Int.mul_comm (a : Int)]; omega
            rw [e]
            exact Int.dvd_add (Int.dvd_mul_of_dvd_left dz) dx
          have d4 : ((a * z : Nat) : Int) % (M : Int) = (1 : Int) % (M : Int) := by
            push_cast
            exact Int.emod_eq_emod_iff_emod_sub_eq_zero.2 (Int.emod_eq_zero_of_dvd d3)
          have d5 : (((a * z) % M : Nat) : Int) = ((1 % M : Nat) : Int) := by push_cast; push_cast at d4; exact d4
          exact_mod_cast d5
      · rw [if_neg (by omega)]
        exact ⟨_, rfl, fun h => absurd h h1, fun _ => rfl⟩
    · rw [if_neg (by omega)]
      have q0 : Int.tdiv (r : Int) (s : Int) = ((r / s : Nat) : Int) := by rw [Int.tdiv_eq_ediv_of_nonneg (by omega)]; push_cast; rfl
      have q1 : r / s ≤ r := Nat.div_le_self _ _
      have q2 : s * (r / s) + r % s = r := Nat.div_add_mod r s
      have q3 : r % s < s := Nat.mod_lt _ (by omega)
      have q4 : ((r / s : Nat) : Int) * (s : Int) = ((s * (r / s) : Nat) : Int) := by push_cast; rw [Int.mul_comm]
      have hg : Nat.gcd r s = Nat.gcd s (r % s) := by rw [Nat.gcd_comm r s, Nat.gcd_comm s (r % s), Nat.gcd_rec]
      have hih := ih (r % s) q3
      clear ih
      rw [q0, hg]
      clear q0 hg
      generalize r / s = q at *
      generalize r % s = t at *
      rw [wrap64_id (q : Int) (by omega) (by omega), q4, wrap64_id (((s * (q) : Nat)) : Int) (by omega) (by omega)]
      rw [show ((r : Int) - ((s * (q) : Nat) : Int)) = (t : Int) from by omega, wrap64_id (t : Int) (by omega) (by omega)]
      generalize hP : (q : Int) * y = Q
      have hrs : (r : Int) = s * (q : Int) + (t : Int) := by exact_mod_cast q2.symm
      have hE2 : (t : Int) * y - s * (x - Q) = -((s : Int) * x - r * y) := by
        rw [hrs, ← hP, Int.mul_sub, Int.add_mul, Int.mul_assoc]
        omega
      have hs1 : (1 : Int) ≤ s := by omega
      have hrr : (0 : Int) ≤ (t : Int) := by omega
      have bnd : -(M : Int) ≤ x - Q ∧ x - Q ≤ M ∧ ((0 ≤ y ∧ x - Q ≤ 0 ∧ (t : Int) * y - s * (x - Q) = M) ∨ (y ≤ 0 ∧ 0 ≤ x - Q ∧ (t : Int) * y - s * (x - Q) = -(M : Int))) := by
        have hq : 0 ≤ (q : Int) := by omega
        rcases hE with ⟨p1, p2, p3⟩ | ⟨p1, p2, p3⟩
        · have hQ : Q ≤ 0 := by rw [← hP]; exact Int.mul_nonpos_of_nonneg_of_nonpos hq p2
          have h5 : 0 ≤ x - Q := by omega
          have h6 : (t : Int) * y ≤ 0 := Int.mul_nonpos_of_nonneg_of_nonpos hrr p2
          have h7 : 1 * (x - Q) ≤ s * (x - Q) := Int.mul_le_mul_of_nonneg_right hs1 h5
          refine ⟨by omega, by omega, .inr ⟨p2, h5, by rw [hE2, p3]⟩⟩
        · have hQ : 0 ≤ Q := by rw [← hP]; exact Int.mul_nonneg hq p2
          have h5 : x - Q ≤ 0 := by omega
          have h6 : 0 ≤ (t : Int) * y := Int.mul_nonneg hrr p2
          have h7 : s * (x - Q) ≤ 1 * (x - Q) := Int.mul_le_mul_of_nonpos_right hs1 h5
          refine ⟨by omega, by omega, .inl ⟨p2, h5, by rw [hE2, p3, Int.neg_neg]⟩⟩
      obtain ⟨b1, b2, b3⟩ := bnd
      rw [wrap64_id Q (by omega) (by omega), wrap64_id (x - Q) (by omega) (by omega)]
      have dd : (M : Int) ∣ (x - Q) * a - (t : Int) := by
        have e : (x - Q) * a - (t : Int) = (x * a - r) - (q : Int) * (y * a - s) := by
          rw [← hP, Int.sub_mul, Int.mul_sub, Int.mul_assoc]
          rw [hrs, Int.mul_comm (s : Int)]
          omega
        rw [e]
        exact Int.dvd_sub dx (Int.dvd_mul_of_dvd_right dy)
      obtain ⟨res, h1, h2⟩ := hih k s y (x - Q) (by omega) (by omega) hs dy dd y0 y1 b1 b2 b3
      refine ⟨res, h1, ?_⟩
      exact h2

theorem inv_start (a M : Nat) : (M : Int) ∣ (1 : Int) * (a : Int) - ((a % M : Nat) : Int) := by
  rw [Int.one_mul]
  have e : ((a % M : Nat) : Int) = (a : Int) % (M : Int) := by push_cast; rfl
  rw [e]
  exact Int.dvd_self_sub_emod

theorem inv_f (k : Nat) (a0 a1 t : Int) (h : modular_modulus.f a1 = some t) (h1 : wrap64 t = t) (h2 : ¬ (t = 0)) (h3 : wrap64 a0 = a0) :
    modular_Inverse.f k a0 a1 = modular_Inverse.l0 k t (Int.tmod a0 t) t 1 0 := by
  unfold modular_Inverse.f
  rw [h]
  show (if (wrap64 t) = 0 then none else modular_Inverse.l0 k (wrap64 t) (Int.tmod (wrap64 a0) (wrap64 t)) (wrap64 t) 1 0) = _
  rw [h1, h3, if_neg h2]

theorem inv_is (a m : Nat) (ha : a < 4294967296) (hm : m < 4294967296) :
    ∃ k res, modular_Inverse.f k (a : Int) (m : Int) = some res ∧ InvOk a (md m) (Nat.gcd (a % md m) (md m)) res := by
  have hp := md_pos m
  have hl := md_le m hm
  have hlt := Nat.mod_lt a hp
  have hmod := modulus_is m hm
  generalize md m = M at *
  have d0 : (M : Int) ∣ (0 : Int) * (a : Int) - ((M : Nat) : Int) := by
    rw [Int.zero_mul, Int.zero_sub]
    exact Int.dvd_neg.2 (Int.dvd_refl _)
  have hx1 : (1 : Int) ≤ (M : Int) := by omega
  have E : (0 : Int) ≤ 1 ∧ (0 : Int) ≤ 0 ∧ ((M : Nat) : Int) * 1 - ((a % M : Nat) : Int) * 0 = (M : Int) := ⟨by decide, by decide, by rw [Int.mul_one, Int.mul_zero, Int.sub_zero]⟩
  have e1 : Int.tmod (a : Int) (M : Int) = ((a % M : Nat) : Int) := by
    rw [Int.tmod_eq_emod_of_nonneg (Int.natCast_nonneg a)]
    push_cast
    rfl
  have e2 := wrap64_id (M : Int) (by omega) (by omega)
  have e3 := wrap64_id (a : Int) (by omega) (by omega)
  have e4 : ¬ ((M : Int) = 0) := by omega
  have hle : a % M ≤ M := Nat.le_of_lt hlt
  have hn1 : -(M : Int) ≤ 1 := by omega
  have hn0 : -(M : Int) ≤ 0 := by omega
  have hp0 : (0 : Int) ≤ M := by omega
  have d1 := inv_start a M
  generalize a % M = t at *
  obtain ⟨K, hK⟩ : ∃ K, M < K := ⟨M + 1, Nat.lt_succ_self M⟩
  obtain ⟨res, h1, h2⟩ := inv_loop a M hp hl M K t 1 0 hK (Nat.le_refl _) hle d1 d0 hn1 hx1 hn0 hp0 (.inl E)
  refine ⟨K, res, ?_, h2⟩
  rw [inv_f K _ _ _ hmod e2 e4 e3, e1]
  exact h1

/-- modular.Inverse: the inverse, or ErrNone. -/
theorem inv_calls (a m : Nat) (ha : a < 4294967296) (hm : m < 4294967296) (w : World) :
    Calls Tryd.prog 19 #[.int .u32 a, .int .u32 m] w fun e w' => (∃ res, e = .returned (.tuple #[.int .u32 res.1, .int .i64 res.2]) ∧ InvOk a (md m) (Nat.gcd (a % md m) (md m)) res) ∧ Below w.heap.size w w' := by
  obtain ⟨k, res, h1, h2⟩ := inv_is a m ha hm
  exact (modular_Inverse.calls k _ _ res.1 res.2 w h1).mono fun e w' h => ⟨⟨res, h.1, h2⟩, h.2⟩

end Go.Proofs.YtgmooidagkbheaaDoor
