/-
  Small functions of package modular and of the reference, by contracts that leave the world alone.
-/
import Derived.Test.YtgmooidagkbheaaDoorPw
import Derived.Lib.Hide
import Derived.WalkKit
import Derived.WalkLawsBesides
namespace Go.Proofs.YtgmooidagkbheaaDoor
open Go.RowKit Go.Proofs.YtgmooidagkbheaaDoorW.PrintWords
set_option linter.unusedVariables false

theorem modulus_same (m : Nat) (h : m < 4294967296) (w : World) :
    Calls Tryd.prog 49 #[.int .u32 m] w fun e w' => e = .returned (.int .u64 (md m : Nat)) ∧ w = w' := by
  by_cases h0 : m = 0
  · subst h0
    go_enter Tryd.func49, Tryd.ntmps49
    go_wp2_with fail
    go_ret
    exact ⟨rfl, rfl⟩
  · have h1 : ¬ ((m : Int) < 1) := by omega
    have HE : Hid (md m = m) := Lib.hid (by unfold md; rw [if_neg h0])
    clear h0
    go_enter Tryd.func49, Tryd.ntmps49
    go_wp2_with fail
    go_ret
    exact ⟨by rw [HE.out]; rfl, rfl⟩

theorem refmod_same (m : Nat) (h : m < 4294967296) (w : World) :
    Calls Tryd.prog 18 #[.int .u32 m] w fun e w' => e = .returned (.int .u64 (md m : Nat)) ∧ w = w' := by
  by_cases h0 : m = 0
  · subst h0
    go_enter Tryd.func18, Tryd.ntmps18
    go_wp2_with fail
    go_ret
    exact ⟨rfl, rfl⟩
  · have h1 : ((m : Int) == 0) = false := by simp; omega
    have HE : Hid (md m = m) := Lib.hid (by unfold md; rw [if_neg h0])
    clear h0
    go_enter Tryd.func18, Tryd.ntmps18
    go_wp2_with fail
    go_ret
    exact ⟨by rw [HE.out]; rfl, rfl⟩

theorem mulmod_64 (a b : Nat) (ha : a < 4294967296) (hb : b < 4294967296) : 0 ≤ (a : Int) * b ∧ (a : Int) * b ≤ 18446744065119617025 := by
  have h1 : a * b ≤ 4294967295 * 4294967295 := Nat.mul_le_mul (by omega) (by omega)
  have h2 : ((a * b : Nat) : Int) = (a : Int) * b := Int.natCast_mul a b
  omega

theorem mul_same (a b m : Nat) (ha : a < 4294967296) (hb : b < 4294967296) (hm : m < 4294967296) (w : World) :
    Calls Tryd.prog 17 #[.int .u32 a, .int .u32 b, .int .u32 m] w fun e w' => e = .returned (.int .u32 (a * b % md m : Nat)) ∧ w = w' := by
  have hp := md_pos m
  have hl := md_le m hm
  obtain ⟨hab0, hab⟩ := mulmod_64 a b ha hb
  have HM := Lib.hid (modulus_same m hm w)
  have HR : Hid (((a : Int) * b % ((md m : Nat) : Int)) % 4294967296 = ((a * b % md m : Nat) : Int)) := Lib.hid (by
    have hr := Nat.mod_lt (a * b) hp
    have e : ((a : Int) * b % ((md m : Nat) : Int)) = ((a * b % md m : Nat) : Int) := by push_cast; rfl
    rw [e]; omega)
  have h1 : 1 ≤ ((md m : Nat) : Int) := by omega
  go_enter Tryd.func17, Tryd.ntmps17
  go_wp2_with fail
  refine (HM.out).mono ?_
  rintro e w1 ⟨rfl, rfl⟩
  go_wp2_with fail
  go_ret
  exact ⟨by rw [← HR.out]; rfl, rfl⟩

theorem add_same (a b m : Nat) (ha : a < 4294967296) (hb : b < 4294967296) (hm : m < 4294967296) (w : World) :
    Calls Tryd.prog 23 #[.int .u32 a, .int .u32 b, .int .u32 m] w fun e w' => e = .returned (.int .u32 ((a + b) % md m : Nat)) ∧ w = w' := by
  have hp := md_pos m
  have hl := md_le m hm
  have HM := Lib.hid (modulus_same m hm w)
  have HR : Hid (((a : Int) + b) % ((md m : Nat) : Int) % 4294967296 = (((a + b) % md m : Nat) : Int)) := Lib.hid (by
    have hr := Nat.mod_lt (a + b) hp
    have e : (((a : Int) + b) % ((md m : Nat) : Int)) = (((a + b) % md m : Nat) : Int) := by push_cast; rfl
    rw [e]; omega)
  have h1 : 1 ≤ ((md m : Nat) : Int) := by omega
  go_enter Tryd.func23, Tryd.ntmps23
  go_wp2_with fail
  refine (HM.out).mono ?_
  rintro e w1 ⟨rfl, rfl⟩
  go_wp2_with fail
  go_ret
  exact ⟨by rw [← HR.out]; rfl, rfl⟩

/-- The negative modulo m. -/
def ngm (a m : Nat) : Nat := (md m - a % md m) % md m
theorem ngm_lt (a m : Nat) : ngm a m < md m := Nat.mod_lt _ (md_pos m)

theorem neg_same (a m : Nat) (ha : a < 4294967296) (hm : m < 4294967296) (w : World) :
    Calls Tryd.prog 25 #[.int .u32 a, .int .u32 m] w fun e w' => e = .returned (.int .u32 (ngm a m : Nat)) ∧ w = w' := by
  have hp := md_pos m
  have hl := md_le m hm
  have HM := Lib.hid (modulus_same m hm w)
  have e0 : ((a : Int) % ((md m : Nat) : Int)) = ((a % md m : Nat) : Int) := by push_cast; rfl
  have hr0 := Nat.mod_lt a hp
  have HR : Hid ((-((a : Int) % ((md m : Nat) : Int))) % ((md m : Nat) : Int) % 4294967296 = ((ngm a m : Nat) : Int)) := Lib.hid (by
    rw [show ((-((a : Int) % ((md m : Nat) : Int))) % ((md m : Nat) : Int)) = ((((md m : Nat) : Int) - (a : Int) % ((md m : Nat) : Int)) % ((md m : Nat) : Int)) from by simp]
    have hr := ngm_lt a m
    have e : ((((md m : Nat) : Int) - (a : Int) % ((md m : Nat) : Int)) % ((md m : Nat) : Int)) = ((ngm a m : Nat) : Int) := by
      rw [e0, show (((md m : Nat) : Int) - ((a % md m : Nat) : Int)) = ((md m - a % md m : Nat) : Int) from by omega]
      unfold ngm
      push_cast; rfl
    rw [e]; omega)
  have h1 : 1 ≤ ((md m : Nat) : Int) := by omega
  have h2 : 0 ≤ (a : Int) % ((md m : Nat) : Int) := by omega
  have h3 : (a : Int) % ((md m : Nat) : Int) < ((md m : Nat) : Int) := by omega
  clear e0
  go_enter Tryd.func25, Tryd.ntmps25
  go_wp2_with fail
  refine (HM.out).mono ?_
  rintro e w1 ⟨rfl, rfl⟩
  go_wp2_with fail
  go_ret
  exact ⟨by rw [← HR.out]; rfl, rfl⟩

theorem sub_same (a b m : Nat) (ha : a < 4294967296) (hb : b < 4294967296) (hm : m < 4294967296) (w : World) :
    Calls Tryd.prog 24 #[.int .u32 a, .int .u32 b, .int .u32 m] w fun e w' => e = .returned (.int .u32 ((a + ngm b m) % md m : Nat)) ∧ w = w' := by
  have hl := md_le m hm
  have hn := ngm_lt b m
  have H1 := Lib.hid (neg_same b m hb hm w)
  have H2 := Lib.hid (add_same a (ngm b m) m ha (by omega) hm w)
  go_enter Tryd.func24, Tryd.ntmps24
  go_wp2_with fail
  refine (H1.out).mono ?_
  rintro e w1 ⟨rfl, rfl⟩
  go_wp2_with fail
  refine (H2.out).mono ?_
  rintro e w1 ⟨rfl, rfl⟩
  go_wp2_with fail
  go_ret
  exact ⟨rfl, rfl⟩

end Go.Proofs.YtgmooidagkbheaaDoor
