/-
  cylinderlaw07.ModularInverse returns true at every input: the walk.
-/
import Derived.Test.YtgmooidagkbheaaDoorQu
import Derived.Test.YtgmooidagkbheaaDoorFit
import Derived.Test.YtgmooidagkbheaaDoorInv
import Derived.Test.YtgmooidagkbheaaDoorFrame
import Derived.Deep.QuietTactic
import Derived.BigQuiet
namespace Go.Proofs.YtgmooidagkbheaaDoor.inverse
open Go.ChangeShapes Go.WideShapes Go.ChangeAt Go.RowKit
set_option linter.unusedVariables false

theorem qleft {P : Program} {f : FuncId} {args : Array Value} {w : World} {n : Nat} {v : Value}
    (h : Calls P f args (w.drewN n) fun e w' => e = .returned v ∧ w.drewN n = w') : Calls P f args (w.drewN n) fun e w'' => e = .returned v ∧ ∃ m, w'' = w.drewN m :=
  h.mono fun _ _ ⟨he, hm⟩ => ⟨he, n, hm.symm⟩

set_option maxHeartbeats 4000000 in
set_option maxRecDepth 100000 in
theorem walk (a m : Nat) (ha : a < 4294967296) (hm : m < 4294967296) (w : World) (hT : TzTab w) :
    Calls Tryd.prog 4 #[.int .u32 a, .int .u32 m] w fun e w' => e = .returned (.bool true) ∧ Below w.heap.size w w' := by
  have HF := Lib.hid (fit_calls w hT)
  have HM := Lib.hid (fun w => refmod_same m hm w)
  have hp := md_pos m
  have hl := md_le m hm
  have HI := Lib.hid (fun w => inv_calls a m ha hm w)
  have HG := Lib.hid (fun w => gcd_calls (a % md m) (md m) w)
  clear hT
  have h1 : 1 ≤ ((md m : Nat) : Int) := by omega
  have hx := Nat.mod_lt a hp
  have q0 : Hid ((a : Int) % (md m : Nat) = ((a % md m : Nat) : Int)) := Lib.hid (by push_cast; rfl)
  have HL := Lib.hid (fun (z : Nat) (hz : z < md m) w => mul_same a z m ha (by omega) hm w)
  generalize Nat.gcd (a % md m) (md m) = g at *
  generalize a % md m = x at *
  go_enter Tryd.func4, Tryd.ntmps4
  go_wp2_with fail
  refine (HF.out).mono ?_
  rintro e w1 ⟨rfl, hb1⟩
  have HB := Lib.hid hb1
  clear hb1
  go_wp2_with fail
  refine (HM.out _).mono ?_
  rintro e w2 ⟨rfl, rfl⟩
  go_wp2_with fail
  refine (HI.out _).mono ?_
  rintro e w3 ⟨⟨res, rfl, hok⟩, hb3⟩
  have HB3 := Lib.hid (HB.out.trans (hb3.mono HB.out.size))
  clear hb3 HB
  by_cases hg : g = 1
  · obtain ⟨z, hres, hz, hzz⟩ := hok.1 hg
    clear hok
    subst hres hg
    have HL2 := Lib.hid (fun w => HL.out z hz w)
    rw [hzz] at HL2
    clear hzz HL
    go_wp2_with fail
    rw [q0.out]
    refine (HG.out _).mono ?_
    rintro e w4 ⟨rfl, hb4⟩
    have HB4 := Lib.hid (HB3.out.trans (hb4.mono HB3.out.size))
    clear hb4 HB3
    have hz64 := wrap_u64_id (z : Int) (by omega) (by omega)
    have hone : (1 : Int) % ((md m : Nat) : Int) = ((1 % md m : Nat) : Int) := by push_cast; rfl
    have hlt1 := Nat.mod_lt 1 hp
    have hlz : decide ((z : Int) < ((md m : Nat) : Int)) = true := by simp; omega
    generalize 1 % md m = o at *
    have ho64 := wrap_u64_id (o : Int) (by omega) (by omega)
    have ht1 : Int.tmod 1 ((md m : Nat) : Int) = (o : Int) := by rw [Int.tmod_eq_emod_of_nonneg (by omega)]; exact hone
    generalize md m = M at *
    have z1 : ((M : Int) == 0) = false := by simp; omega
    go_wp2_with fail
    go_quiet ((go_at_call 17; exact qleft (HL2.out _)))
    go_wp2_with fail
    go_ret
    exact ⟨rfl, below_drewN HB4.out _⟩
  · have hres := hok.2 hg
    clear hok
    subst hres
    have hgi : ((g : Int) != 1) = true := by simp; omega
    clear hg
    go_wp2_with fail
    rw [q0.out]
    refine (HG.out _).mono ?_
    rintro e w4 ⟨rfl, hb4⟩
    have HB4 := Lib.hid (HB3.out.trans (hb4.mono HB3.out.size))
    clear hb4 HB3
    go_wp2_with fail
    go_ret
    exact ⟨rfl, HB4.out⟩

end Go.Proofs.YtgmooidagkbheaaDoor.inverse
