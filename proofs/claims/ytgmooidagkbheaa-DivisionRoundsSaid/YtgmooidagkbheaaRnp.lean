/-
  Plain facts on the nearest integer and the nearest remainder.
-/
import Derived.Test.YtgmooidagkbheaaEx
namespace Go.Proofs.Ytgmooidagkbheaa
open Go.RowKit Go.Proofs.YtgmooidagkbheaaW.PrintWords
set_option linter.unusedVariables false

theorem fm_facts (a : Int) {b : Int} (hb : b ≠ 0) : Int.fdiv a b * b + Int.fmod a b = a ∧ ((0 < b ∧ 0 ≤ Int.fmod a b ∧ Int.fmod a b < b) ∨ (b < 0 ∧ b < Int.fmod a b ∧ Int.fmod a b ≤ 0)) := by
  refine ⟨Int.fdiv_mul_add_fmod a b, ?_⟩
  rcases Int.lt_or_lt_of_ne hb with h2 | h2
  · have := (Int.fdiv_fmod_unique' (a := a) (q := Int.fdiv a b) (r := Int.fmod a b) h2).1 ⟨rfl, rfl⟩
    exact .inr ⟨h2, this.2.1, this.2.2⟩
  · have := (Int.fdiv_fmod_unique (a := a) (q := Int.fdiv a b) (r := Int.fmod a b) h2).1 ⟨rfl, rfl⟩
    exact .inl ⟨h2, this.2.1, this.2.2⟩
/-- How far the dividend is from the nearest multiple. -/
theorem rn_far (a : Int) {b : Int} (hb : b ≠ 0) : ((a - rn a b * b).natAbs : Int) + ((a - rn a b * b).natAbs : Int) ≤ (b.natAbs : Int) ∧
    (((a - rn a b * b).natAbs : Int) + ((a - rn a b * b).natAbs : Int) = (b.natAbs : Int) → rn a b % 2 = 0) := by
  obtain ⟨h1, h2⟩ := fm_facts a hb
  unfold rn
  generalize Int.fdiv a b = q at *
  generalize Int.fmod a b = r at *
  have h3 : a - q * b = r := by omega
  have h4 : a - (q + 1) * b = r - b := by rw [Int.add_mul, Int.one_mul]; omega
  split
  · rename_i h
    rw [h4]
    refine ⟨by omega, fun h5 => ?_⟩
    rcases h with h | ⟨h, h6⟩
    · omega
    · omega
  · rename_i h
    rw [h3]
    refine ⟨by omega, fun h5 => ?_⟩
    have h7 : ¬ q % 2 = 1 := fun h8 => h (.inr ⟨by omega, h8⟩)
    omega
theorem sy_near (a : Int) {b : Int} (hb : b ≠ 0) : sy a b + sy a b ≤ (b.natAbs : Int) ∧ -(b.natAbs : Int) < sy a b + sy a b ∧ b ∣ a - sy a b := by
  have h1 := Int.emod_nonneg a hb
  have h2 := Int.emod_lt a hb
  have h3 : b ∣ a - a % b := ⟨a / b, by have := Int.mul_ediv_add_emod a b; omega⟩
  unfold sy
  generalize a % b = r at *
  split
  · refine ⟨by omega, by omega, ?_⟩
    have h4 : b ∣ (b.natAbs : Int) := Int.dvd_natAbs_self
    have := Int.dvd_add h3 h4
    rwa [show a - r + (b.natAbs : Int) = a - (r - (b.natAbs : Int)) from by omega] at this
  · exact ⟨by omega, by omega, h3⟩
theorem Sz.rn {k : Nat} {a b : Int} (h : Sz k a) (hb : b ≠ 0) : Sz (k + 2) (rn a b) := by
  have h1 := h.fdiv hb
  unfold Go.Proofs.Ytgmooidagkbheaa.rn
  split
  · exact h1.add (Sz.mono (Sz.small (z := 1) (by decide)) (by omega))
  · exact h1.mono (by omega)
theorem Sz.sy {k : Nat} {a b : Int} (h : Sz k b) (hb : b ≠ 0) : Sz (k + 1) (sy a b) := by
  have h1 := h.emod (x := a) hb
  unfold Go.Proofs.Ytgmooidagkbheaa.sy
  split
  · exact h1.sub h.abs
  · exact h1.mono (by omega)
theorem round_is {v1 v2 : Value} {z1 z2 n : Int} {k1 k2 : Nat} {w : World} (h1 : Rd w v1 z1 k1) (h2 : Rd w v2 z2 k2) (q1 : k1 ≤ 100000) (q2 : k2 ≤ 100000) (hz : z2 ≠ 0) (e : rn z1 z2 = n) :
    Calls Try.prog 35 #[v1, v2] w fun e w' => (∃ r, e = .returned (.tuple #[r, .int .i64 0]) ∧ In w' r n) ∧ Below w.heap.size w w' := by
  subst e
  exact round_rd h1 h2 q1 q2 hz
theorem symm_is {v1 v2 : Value} {z1 z2 n : Int} {k1 k2 : Nat} {w : World} (h1 : Rd w v1 z1 k1) (h2 : Rd w v2 z2 k2) (q1 : k1 ≤ 100000) (q2 : k2 ≤ 100000) (hz : z2 ≠ 0) (e : sy z1 z2 = n) :
    Calls Try.prog 36 #[v1, v2] w fun e w' => (∃ r, e = .returned (.tuple #[r, .int .i64 0]) ∧ In w' r n) ∧ Below w.heap.size w w' := by
  subst e
  exact symm_rd h1 h2 q1 q2 hz

end Go.Proofs.Ytgmooidagkbheaa
