/-
  cylinderlaw07.ModularArithmetic returns true at every input, and each argument reads behind the call as it read before.
-/
import Derived.Test.YtgmooidagkbheaaDoorQu
import Derived.Test.YtgmooidagkbheaaDoorFit
import Derived.Test.YtgmooidagkbheaaDoorFrame
import Derived.Deep.QuietTactic
import Derived.BigQuiet
namespace Go.Proofs.YtgmooidagkbheaaDoor.arith
open Go.ChangeShapes Go.WideShapes Go.ChangeAt Go.RowKit
set_option linter.unusedVariables false

theorem qleft {P : Program} {f : FuncId} {args : Array Value} {w : World} {n : Nat} {v : Value}
    (h : Calls P f args (w.drewN n) fun e w' => e = .returned v ∧ w.drewN n = w') : Calls P f args (w.drewN n) fun e w'' => e = .returned v ∧ ∃ m, w'' = w.drewN m :=
  h.mono fun _ _ ⟨he, hm⟩ => ⟨he, n, hm.symm⟩

set_option maxHeartbeats 4000000 in
set_option maxRecDepth 100000 in
theorem walk (a b m : Nat) (ha : a < 4294967296) (hb : b < 4294967296) (hm : m < 4294967296) (w : World) (hT : TzTab w) :
    Calls Tryd.prog 6 #[.int .u32 a, .int .u32 b, .int .u32 m] w fun e w' => e = .returned (.bool true) ∧ Below w.heap.size w w' := by
  have HF := Lib.hid (fit_calls w hT)
  have HM := Lib.hid (fun w => refmod_same m hm w)
  have hp := md_pos m
  have hl := md_le m hm
  have H1 := Lib.hid (fun w => add_same a b m ha hb hm w)
  have H2 := Lib.hid (fun w => sub_same a b m ha hb hm w)
  have H3 := Lib.hid (fun w => neg_same a m ha hm w)
  have H4 := Lib.hid (fun w => mul_same a b m ha hb hm w)
  clear hT
  have h1 : 1 ≤ ((md m : Nat) : Int) := by omega
  go_enter Tryd.func6, Tryd.ntmps6
  go_wp2_with fail
  refine (HF.out).mono ?_
  rintro e w1 ⟨rfl, hb1⟩
  have HB := Lib.hid hb1
  clear hb1
  go_wp2_with fail
  refine (HM.out _).mono ?_
  rintro e w2 ⟨rfl, rfl⟩
  go_wp2_with fail
  go_quiet (fail)
  go_wp2_with fail
  generalize hW : World.drewN _ _ = W
  have HB2 : Hid (Below w.heap.size w W) := Lib.hid (by subst hW; exact below_drewN HB.out _)
  clear hW
  have q0 : (a : Int) % (md m : Nat) = ((a % md m : Nat) : Int) := by push_cast; rfl
  have q1 : (b : Int) % (md m : Nat) = ((b % md m : Nat) : Int) := by push_cast; rfl
  have hx := Nat.mod_lt a hp
  have hy := Nat.mod_lt b hp
  simp only [q0, q1]
  clear q0 q1
  have r1l := Nat.mod_lt (a + b) hp
  have r2l := Nat.mod_lt (a + ngm b m) hp
  have r3l := ngm_lt a m
  have r4l := Nat.mod_lt (a * b) hp
  have E1 : (a + b) % md m = (a % md m + b % md m) % md m := Nat.add_mod _ _ _
  have E2 : (a + ngm b m) % md m = (a % md m + md m - b % md m) % md m := by
    unfold ngm
    rw [show a % md m + md m - b % md m = a % md m + (md m - b % md m) from by omega]
    simp
  have E3 : ngm a m = (md m - a % md m) % md m := rfl
  have E4 : a * b % md m = a % md m * (b % md m) % md m := Nat.mul_mod _ _ _
  generalize (a + b) % md m = r1 at *
  generalize (a + ngm b m) % md m = r2 at *
  generalize ngm a m = r3 at *
  generalize a * b % md m = r4 at *
  generalize a % md m = x at *
  generalize b % md m = y at *
  generalize md m = M at *
  have w1 := wrap_u64_id (r1 : Int) (by omega) (by omega)
  have w2 := wrap_u64_id (r2 : Int) (by omega) (by omega)
  have w3 := wrap_u64_id (r3 : Int) (by omega) (by omega)
  have w4 := wrap_u64_id (r4 : Int) (by omega) (by omega)
  have s1 := wrap_u64_id ((x : Int) + y) (by omega) (by omega)
  have s2 := wrap_u64_id ((x : Int) + M) (by omega) (by omega)
  have s3 := wrap_u64_id ((x : Int) + M - y) (by omega) (by omega)
  have s4 := wrap_u64_id ((M : Int) - x) (by omega) (by omega)
  obtain ⟨p0, p1⟩ := mulmod_64 x y (by omega) (by omega)
  have s5 := wrap_u64_id ((x : Int) * y) (by omega) (by omega)
  have c1 : ((r1 : Int) == (((x : Int) + y) % M)) = true := by rw [E1]; simp
  have c2 : ((r2 : Int) == (((x : Int) + M - y) % M)) = true := by rw [E2, show ((x : Int) + M - y) = ((x + M - y : Nat) : Int) from by omega]; simp
  have c3 : ((r3 : Int) == (((M : Int) - x) % M)) = true := by rw [E3, show ((M : Int) - x) = ((M - x : Nat) : Int) from by omega]; simp
  have c4 : ((r4 : Int) == (((x : Int) * y) % M)) = true := by rw [E4]; simp
  have c5 : ((r3 : Int) == ((-(x : Int)) % M)) = true := by simpa using c3
  clear E1 E2 E3 E4
  have z1 : ((M : Int) == 0) = false := by simp; omega
  have t1 : Int.tmod ((x : Int) + y) M = ((x : Int) + y) % M := Int.tmod_eq_emod_of_nonneg (by omega)
  have t2 : Int.tmod ((x : Int) + M - y) M = ((x : Int) + M - y) % M := Int.tmod_eq_emod_of_nonneg (by omega)
  have t3 : Int.tmod ((M : Int) - x) M = ((M : Int) - x) % M := Int.tmod_eq_emod_of_nonneg (by omega)
  have t4 : Int.tmod ((x : Int) * y) M = ((x : Int) * y) % M := Int.tmod_eq_emod_of_nonneg (by omega)
  go_quiet (first | ((go_at_call 23; exact qleft (H1.out _))) | ((go_at_call 24; exact qleft (H2.out _))) | ((go_at_call 25; exact qleft (H3.out _))) | ((go_at_call 17; exact qleft (H4.out _))))
  go_wp2_with fail
  go_ret
  exact ⟨rfl, below_drewN HB2.out _⟩

end Go.Proofs.YtgmooidagkbheaaDoor.arith
