/-
  cylinderlaw07.ModularFermat returns true at every input: the walk.
-/
import Derived.Test.YtgmooidagkbheaaDoorNext
import Derived.Test.YtgmooidagkbheaaDoorPs
import Derived.Test.YtgmooidagkbheaaDoorInv
import Derived.Test.YtgmooidagkbheaaDoorFit
import Derived.Test.YtgmooidagkbheaaDoorFrame
import Derived.Deep.QuietTactic
import Derived.BigQuiet
namespace Go.Proofs.YtgmooidagkbheaaDoor.fermat
open Go.ChangeShapes Go.WideShapes Go.ChangeAt Go.RowKit
set_option linter.unusedVariables false

theorem qleft {P : Program} {f : FuncId} {args : Array Value} {w : World} {n : Nat} {v : Value}
    (h : Calls P f args (w.drewN n) fun e w' => e = .returned v ∧ w.drewN n = w') : Calls P f args (w.drewN n) fun e w'' => e = .returned v ∧ ∃ m, w'' = w.drewN m :=
  h.mono fun _ _ ⟨he, hm⟩ => ⟨he, n, hm.symm⟩

theorem and30 (n : Nat) (h : n < 4294967296) : Go.bits .and .u32 (n : Int) 1073741823 = ((n % 1073741824 : Nat) : Int) := by
  have h1 : (BitVec.ofInt 32 (n : Int)).toNat = n := by
    rw [BitVec.ofInt_natCast, BitVec.toNat_ofNat]; exact Nat.mod_eq_of_lt (by omega)
  show IntKind.u32.wrap ((BitVec.ofInt 32 (n : Int) &&& BitVec.ofInt 32 1073741823).toNat : Int) = _
  rw [BitVec.toNat_and, h1, show (BitVec.ofInt 32 1073741823).toNat = 2 ^ 30 - 1 from rfl, Nat.and_two_pow_sub_one_eq_mod]
  have := Nat.mod_lt n (show 0 < 2 ^ 30 by decide)
  show ((n % 2 ^ 30 : Nat) : Int) % 4294967296 = _
  omega

theorem inv_unique (p a x b : Nat) (hx : x < p) (h2 : 2 ≤ p) (h1 : a * x % p = 1 % p) (hb : a * b % p = 1 % p) : x = b % p := by
  have e1 : x * (a * b) % p = x := by
    rw [Nat.mul_mod, hb, ← Nat.mul_mod, Nat.mul_one, Nat.mod_eq_of_lt hx]
  have e2 : b * (a * x) % p = b % p := by
    rw [Nat.mul_mod, h1, ← Nat.mul_mod, Nat.mul_one]
  rw [← e1, ← e2]
  congr 1
  rw [← Nat.mul_assoc, ← Nat.mul_assoc, Nat.mul_comm x a, Nat.mul_comm b a, Nat.mul_assoc, Nat.mul_assoc, Nat.mul_comm x b]

/-- What the law looks at. -/
theorem facts (p a x : Nat) (hp : Mr.Pr p) (ha : ¬ p ∣ a) (hx : x < p) (h1 : a * x % p = 1 % p) :
    a ^ (p - 1) % p = 1 ∧ x = a ^ (p - 2) % p ∧ a ^ p % p = a % p := by
  have h2 := hp.two
  have hf : a ^ (p - 1) % p = 1 % p := Mr.fermat hp ha
  have h11 : 1 % p = 1 := Nat.mod_eq_of_lt (by omega)
  refine ⟨by rw [hf, h11], inv_unique p a x _ hx h2 h1 ?_, ?_⟩
  · rw [← Nat.pow_succ', show (p - 2).succ = p - 1 from by omega, hf]
  · rw [show p = (p - 1) + 1 from by omega, Nat.pow_succ, Nat.mul_mod, show p - 1 + 1 = p from by omega, hf, ← Nat.mul_mod, Nat.one_mul]

set_option maxHeartbeats 4000000 in
set_option maxRecDepth 100000 in
theorem walk (a n : Nat) (ha : a < 4294967296) (hn : n < 4294967296) (w : World) (hT : TzTab w) :
    Calls Tryd.prog 9 #[.int .u32 a, .int .u32 n] w fun e w' => e = .returned (.bool true) ∧ Below w.heap.size w w' := by
  have HF := Lib.hid (fit_calls w hT)
  have HT := Lib.hid hT
  obtain ⟨q, hq⟩ : ∃ q, n % 1073741824 = q := ⟨_, rfl⟩
  have e0 : Go.bits .and .u32 (n : Int) 1073741823 = (q : Int) := by rw [and30 n hn, hq]
  have HX := Lib.hid (fun w hw => next_calls q w hw)
  have HQ : Hid (q < 2147483647) := Lib.hid (by omega)
  clear hT hn hq
  go_enter Tryd.func9, Tryd.ntmps9
  go_wp2_with fail
  refine (HF.out).mono ?_
  rintro e w1 ⟨rfl, hb1⟩
  have HT1 := Lib.hid (HT.out.below hb1)
  have HB1 := Lib.hid hb1
  clear hb1
  go_wp2_with fail
  refine (HX.out _ HT1.out).mono ?_
  rintro e w2 ⟨⟨p, c, rfl, hnp⟩, hb2⟩
  have HB2 := Lib.hid (HB1.out.trans (hb2.mono HB1.out.size))
  clear hb2 HX
  obtain ⟨rfl, hp, hlt, hp2, _⟩ := np_small hnp HQ.out
  clear hnp
  have hpr := (isPr_iff p (by omega)).1 hp
  have h2 := hpr.two
  have hmd : md p = p := md_of p h2
  have g1 : decide ((p : Int) < 2) = false := decide_eq_false (by omega)
  have g2 : decide (p < 2) = false := decide_eq_false (by omega)
  have h1 : 1 ≤ (p : Int) := by omega
  have z1 : ((p : Int) == 0) = false := by simp; omega
  obtain ⟨y, hy⟩ : ∃ y, a % p = y := ⟨_, rfl⟩
  have t2 : Int.tmod (a : Int) (p : Int) = (y : Int) := by rw [Int.tmod_eq_emod_of_nonneg (by omega), ← hy]; push_cast; rfl
  have t3 : (a : Int) % (p : Int) = (y : Int) := by rw [← hy]; push_cast; rfl
  have wp := wrap_u64_id (p : Int) (by omega) (by omega)
  clear hp hlt
  by_cases h0 : y = 0
  · have hz : a ^ p % md p = 0 := by
      rw [hmd, Nat.pow_mod, hy, h0, Nat.zero_pow (by omega), Nat.zero_mod]
    have HP := Lib.hid (pow_same a p p ha (by omega) (by omega) w2)
    rw [hz] at HP
    subst h0
    clear hz hy hmd h2 hpr hp2 ha
    go_wp2_with fail
    refine (HP.out).mono ?_
    rintro e w3 ⟨rfl, rfl⟩
    go_wp2_with fail
    go_ret
    exact ⟨rfl, HB2.out⟩
  · have g5 : ((y : Int) == 0) = false := by simp; omega
    have hnd : ¬ p ∣ a := fun hd => h0 (by rw [← hy]; exact Nat.mod_eq_zero_of_dvd hd)
    have hg : Nat.gcd (a % md p) (md p) = 1 := by
      rw [hmd, ← Nat.gcd_rec, hpr.coprime a hnd]
    have HI := Lib.hid (fun w => inv_calls a p ha (by omega) w)
    go_wp2_with fail
    refine (HI.out _).mono ?_
    rintro e w3 ⟨⟨res, rfl, hok⟩, hb3⟩
    have HB3 := Lib.hid (HB2.out.trans (hb3.mono HB2.out.size))
    obtain ⟨x, rfl, hx, hax⟩ := hok.1 hg
    rw [hmd] at hx hax
    obtain ⟨f1, f2, f3⟩ := facts p a x hpr hnd hx hax
    obtain ⟨p1, hp1⟩ : ∃ p1, p - 1 = p1 := ⟨_, rfl⟩
    obtain ⟨p2, hp2'⟩ : ∃ p2, p - 2 = p2 := ⟨_, rfl⟩
    have P1 := Lib.hid (fun w => pow_same a p1 p ha (by omega) (by omega) w)
    have P2 := Lib.hid (fun w => pow_same a p2 p ha (by omega) (by omega) w)
    have P3 := Lib.hid (fun w => pow_same a p p ha (by omega) (by omega) w)
    rw [hmd, ← hp1, f1, hp1] at P1
    rw [hmd, ← hp2', ← f2, hp2'] at P2
    rw [hmd, f3, hy] at P3
    have s1 : IntKind.u64.wrap ((p : Int) - 1) = (p1 : Int) := by rw [wrap_u64_id _ (by omega) (by omega)]; omega
    have s2 : IntKind.u64.wrap ((p : Int) - 2) = (p2 : Int) := by rw [wrap_u64_id _ (by omega) (by omega)]; omega
    have t4 : Int.tmod (1 : Int) (p : Int) = 1 := by rw [Int.tmod_eq_emod_of_nonneg (by omega), Int.emod_eq_of_lt (by omega) (by omega)]
    have t5 : (1 : Int) % (p : Int) = 1 := Int.emod_eq_of_lt (by omega) (by omega)
    clear hok hb3 hg hax hx f1 f2 f3 hp1 hp2' hmd hnd hpr h2 hy h0 ha hp2
    go_wp2_with fail
    go_quiet (first | ((go_at_call 15; with_reducible exact qleft (P1.out _))) | ((go_at_call 15; with_reducible exact qleft (P2.out _))) | ((go_at_call 15; with_reducible exact qleft (P3.out _))))
    go_wp2_with fail
    go_ret
    exact ⟨rfl, below_drewN HB3.out _⟩

end Go.Proofs.YtgmooidagkbheaaDoor.fermat
