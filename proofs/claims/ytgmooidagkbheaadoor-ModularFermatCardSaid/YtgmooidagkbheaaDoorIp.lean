/-
  modular.probable and modular.IsPrime answer as the plain functions 'prob' and 'isPr' do.
-/
import Derived.Test.YtgmooidagkbheaaDoorPw
import Derived.Test.YtgmooidagkbheaaDoorTz
import Derived.Lib.Hide
namespace Go.Proofs.YtgmooidagkbheaaDoor
open Go.RowKit Go.Proofs.YtgmooidagkbheaaDoorW.PrintWords
set_option linter.unusedVariables false

/-- The rounds of the test: y is squared j times. -/
def probL (n : Nat) : Nat → Nat → Bool
  | 0, _ => false
  | j + 1, x => (x * x % n == n - 1) || probL n j (x * x % n)

/-- The strong test to a base. -/
def prob (n b t : Nat) : Bool := (b ^ ((n - 1) / 2 ^ t) % n == 1) || (b ^ ((n - 1) / 2 ^ t) % n == n - 1) || probL n (t - 1) (b ^ ((n - 1) / 2 ^ t) % n)

theorem md_of (n : Nat) (h : 2 ≤ n) : md n = n := by unfold md; rw [if_neg (by omega)]

theorem prob_shift (n t : Nat) (h2 : 2 ≤ n) : (((n : Int) - 1) / 2 ^ t) = (((n - 1) / 2 ^ t : Nat) : Int) := by
  rw [show ((n : Int) - 1) = ((n - 1 : Nat) : Int) from by omega]
  push_cast
  rfl

theorem probL_succ (n j x : Nat) : probL n (j + 1) x = ((x * x % n == n - 1) || probL n j (x * x % n)) := rfl

set_option maxHeartbeats 1000000 in
theorem prob_calls (n b t : Nat) (h2 : 2 ≤ n) (hn : n < 4294967296) (hb : b < 4294967296) (ht : t < 64) (w : World) :
    Calls Tryd.prog 51 #[.int .u32 n, .int .u32 b, .int .i64 t] w fun e w' => e = .returned (.bool (prob n b t)) ∧ Below w.heap.size w w' := by
  have hdiv : (n - 1) / 2 ^ t < 18446744073709551616 := by
    have := Nat.div_le_self (n - 1) (2 ^ t)
    omega
  have hx := Nat.mod_lt (b ^ ((n - 1) / 2 ^ t)) (show 0 < n by omega)
  obtain ⟨x, ex⟩ : ∃ x, b ^ ((n - 1) / 2 ^ t) % n = x := ⟨_, rfl⟩
  have HP := Lib.hid (pow_calls b ((n - 1) / 2 ^ t) n hb hdiv hn)
  rw [md_of n h2] at HP
  have HR : Hid (prob n b t = ((x == 1) || (x == n - 1) || probL n (t - 1) x)) := Lib.hid (by unfold prob; rw [ex])
  have HS := Lib.hid (prob_shift n t h2)
  rw [ex] at HP hx
  clear ex hdiv
  go_enter Tryd.func51, Tryd.ntmps51
  go_wp2_with fail
  rw [HS.out]
  refine (HP.out _).mono ?_
  rintro e w1 ⟨rfl, hb1⟩
  have HB := Lib.hid hb1
  clear hb1
  by_cases h1 : x = 1
  · subst h1
    go_wp2_with fail
    go_ret
    exact ⟨by rw [HR.out]; rfl, HB.out⟩
  · have c1 : ((x : Int) == 1) = false := by simp; omega
    by_cases h3 : x = n - 1
    · have c2 : ((x : Int) == (n : Int) - 1) = true := by simp; omega
      have HE := Lib.hid h3
      clear h3 h1
      go_wp2_with fail
      go_ret
      exact ⟨by rw [HR.out, HE.out]; simp, HB.out⟩
    · have c2 : ((x : Int) == (n : Int) - 1) = false := by simp; omega
      have HR2 : Hid (prob n b t = probL n (t - 1) x) := Lib.hid (by rw [HR.out]; simp [h1, h3])
      clear h3 h1 HR HP HS
      go_wp2_with fail
      go_loopw [7, 8] (fun v i wr => ∃ y k : Nat, v = .int .u32 y ∧ i = .int .i64 k ∧ 1 ≤ k ∧ k ≤ max t 1 ∧ y < n ∧ Hid (prob n b t = probL n (t - k) y) ∧ Hid (Below w.heap.size w wr)) (fun _ i _ => t - (intOf i).toNat)
      case atStart => exact ⟨x, 1, rfl, rfl, by omega, by omega, hx, HR2, HB⟩
      case round =>
        obtain ⟨y, k, rfl, rfl, hk1, hk2, hy, HQ, HB2⟩ := hrel
        by_cases hlt : k < t
        · obtain ⟨j, hj⟩ : ∃ j, t - k = j + 1 := ⟨t - k - 1, by omega⟩
          have HQ2 : Hid (prob n b t = ((y * y % n == n - 1) || probL n (t - (k + 1)) (y * y % n))) := Lib.hid (by rw [HQ.out, hj, probL_succ, show t - (k + 1) = j from by omega])
          have hz := Nat.mod_lt (y * y) (show 0 < n by omega)
          have HM := Lib.hid (mul_calls y y n (by omega) (by omega) hn)
          rw [md_of n h2] at HM
          obtain ⟨z, ez⟩ : ∃ z, y * y % n = z := ⟨_, rfl⟩
          rw [ez] at HM hz HQ2
          clear ez hj j HQ
          go_wp2_with fail
          refine (HM.out _).mono ?_
          rintro e w2 ⟨rfl, hb2⟩
          have HB3 := Lib.hid (HB2.out.trans (hb2.mono HB2.out.size))
          clear hb2
          by_cases hzn : z = n - 1
          · have c3 : ((z : Int) == (n : Int) - 1) = true := by simp; omega
            have HE := Lib.hid hzn
            clear hzn
            go_wp2_with fail
            go_ret
            exact ⟨by rw [HQ2.out, HE.out]; simp, HB3.out⟩
          · have c3 : ((z : Int) == (n : Int) - 1) = false := by simp; omega
            have HQ3 : Hid (prob n b t = probL n (t - (k + 1)) z) := Lib.hid (by rw [HQ2.out]; simp [hzn])
            clear hzn HQ2
            go_wp2_with fail
            go_roundw
            case rel => exact ⟨z, k + 1, rfl, by go_num, by omega, by omega, hz, HQ3, HB3⟩
            case measure => simp [intOf]; omega
        · have HQ2 : Hid (prob n b t = false) := Lib.hid (by rw [HQ.out, show t - k = 0 from by omega]; rfl)
          clear HQ
          go_wp2_with fail
          go_ret
          exact ⟨by rw [HQ2.out]; rfl, HB2.out⟩

/-- The test of all three bases. -/
def strong (n : Nat) : Bool := prob n 2 (Lib.ctz 32 (n - 1)) && (prob n 7 (Lib.ctz 32 (n - 1)) && prob n 61 (Lib.ctz 32 (n - 1)))
/-- IsPrime, as the program decides it. -/
def isPr (n : Nat) : Bool :=
  if n < 2 then false else if n % 2 = 0 then n == 2 else if n % 3 = 0 then n == 3 else if n % 5 = 0 then n == 5 else if n % 7 = 0 then n == 7 else if n % 61 = 0 then n == 61 else strong n

/-- What is left of the decision behind k of the five small primes. -/
def isPrFrom : Nat → Nat → Bool
  | 0, n => if n % 2 = 0 then n == 2 else isPrFrom 1 n
  | 1, n => if n % 3 = 0 then n == 3 else isPrFrom 2 n
  | 2, n => if n % 5 = 0 then n == 5 else isPrFrom 3 n
  | 3, n => if n % 7 = 0 then n == 7 else isPrFrom 4 n
  | 4, n => if n % 61 = 0 then n == 61 else strong n
  | _ + 5, n => strong n
termination_by k => 5 - k

theorem isPrFrom0 (n : Nat) : isPrFrom 0 n = if n % 2 = 0 then n == 2 else isPrFrom 1 n := by rw [isPrFrom]
theorem isPrFrom1 (n : Nat) : isPrFrom 1 n = if n % 3 = 0 then n == 3 else isPrFrom 2 n := by rw [isPrFrom]
theorem isPrFrom2 (n : Nat) : isPrFrom 2 n = if n % 5 = 0 then n == 5 else isPrFrom 3 n := by rw [isPrFrom]
theorem isPrFrom3 (n : Nat) : isPrFrom 3 n = if n % 7 = 0 then n == 7 else isPrFrom 4 n := by rw [isPrFrom]
theorem isPrFrom4 (n : Nat) : isPrFrom 4 n = if n % 61 = 0 then n == 61 else isPrFrom 5 n := by rw [isPrFrom, isPrFrom]
theorem isPrFrom5 (n : Nat) : isPrFrom 5 n = strong n := by rw [isPrFrom]
theorem isPr_from (n : Nat) (h : 2 ≤ n) : isPr n = isPrFrom 0 n := by
  unfold isPr
  rw [if_neg (by omega), isPrFrom0, isPrFrom1, isPrFrom2, isPrFrom3, isPrFrom4, isPrFrom5]

/-- The bases that are left. -/
def strongFrom (n : Nat) : Nat → Bool
  | 0 => prob n 2 (Lib.ctz 32 (n - 1)) && strongFrom n 1
  | 1 => prob n 7 (Lib.ctz 32 (n - 1)) && strongFrom n 2
  | 2 => prob n 61 (Lib.ctz 32 (n - 1)) && strongFrom n 3
  | _ + 3 => true
termination_by k => 3 - k
theorem strongFrom0 (n : Nat) : strongFrom n 0 = (prob n 2 (Lib.ctz 32 (n - 1)) && strongFrom n 1) := by rw [strongFrom]
theorem strongFrom1 (n : Nat) : strongFrom n 1 = (prob n 7 (Lib.ctz 32 (n - 1)) && strongFrom n 2) := by rw [strongFrom]
theorem strongFrom2 (n : Nat) : strongFrom n 2 = (prob n 61 (Lib.ctz 32 (n - 1)) && strongFrom n 3) := by rw [strongFrom]
theorem strongFrom3 (n : Nat) : strongFrom n 3 = true := by rw [strongFrom]
theorem strong_from (n : Nat) : strong n = strongFrom n 0 := by
  rw [strongFrom0, strongFrom1, strongFrom2, strongFrom3]
  simp [strong]

theorem ctz32_lt (n : Nat) (h0 : n ≠ 0) (h : n < 4294967296) : Lib.ctz 32 n < 64 := by
  have := (Lib.lowest_bit 32 n h0 h).2
  omega

theorem isPr_small (w : World) (n : Nat) (h : n < 2) :
    Calls Tryd.prog 21 #[.int .u32 n] w fun e w' => e = .returned (.bool false) ∧ Below w.heap.size w w' := by
  have hlt : (n : Int) < 2 := by omega
  go_enter Tryd.func21, Tryd.ntmps21
  go_wp2_with fail
  go_ret
  exact ⟨rfl, Below.refl _ _⟩

theorem natEq (n k : Nat) : ((n : Int) == (k : Int)) = (n == k) := by rw [Bool.eq_iff_iff]; simp; omega

set_option maxHeartbeats 4000000 in
theorem isPr_calls (n : Nat) (hn : n < 4294967296) (w : World) (hT : TzTab w) :
    Calls Tryd.prog 21 #[.int .u32 n] w fun e w' => e = .returned (.bool (isPr n)) ∧ Below w.heap.size w w' := by
  by_cases h2 : n < 2
  · rw [show isPr n = false from by unfold isPr; rw [if_pos h2]]
    exact isPr_small w n h2
  have i0 : ∀ w : World, (Instr.index 75 (.agg #[.int .u32 2, .int .u32 3, .int .u32 5, .int .u32 7, .int .u32 61]) (.int .i64 0)).run Tryd.prog w = .ok (.int .u32 2) w := fun _ => by kernel_rfl
  have i1 : ∀ w : World, (Instr.index 75 (.agg #[.int .u32 2, .int .u32 3, .int .u32 5, .int .u32 7, .int .u32 61]) (.int .i64 1)).run Tryd.prog w = .ok (.int .u32 3) w := fun _ => by kernel_rfl
  have i2 : ∀ w : World, (Instr.index 75 (.agg #[.int .u32 2, .int .u32 3, .int .u32 5, .int .u32 7, .int .u32 61]) (.int .i64 2)).run Tryd.prog w = .ok (.int .u32 5) w := fun _ => by kernel_rfl
  have i3 : ∀ w : World, (Instr.index 75 (.agg #[.int .u32 2, .int .u32 3, .int .u32 5, .int .u32 7, .int .u32 61]) (.int .i64 3)).run Tryd.prog w = .ok (.int .u32 7) w := fun _ => by kernel_rfl
  have i4 : ∀ w : World, (Instr.index 75 (.agg #[.int .u32 2, .int .u32 3, .int .u32 5, .int .u32 7, .int .u32 61]) (.int .i64 4)).run Tryd.prog w = .ok (.int .u32 61) w := fun _ => by kernel_rfl
  have j0 : ∀ w : World, (Instr.index 77 (.agg #[.int .u32 2, .int .u32 7, .int .u32 61]) (.int .i64 0)).run Tryd.prog w = .ok (.int .u32 2) w := fun _ => by kernel_rfl
  have j1 : ∀ w : World, (Instr.index 77 (.agg #[.int .u32 2, .int .u32 7, .int .u32 61]) (.int .i64 1)).run Tryd.prog w = .ok (.int .u32 7) w := fun _ => by kernel_rfl
  have j2 : ∀ w : World, (Instr.index 77 (.agg #[.int .u32 2, .int .u32 7, .int .u32 61]) (.int .i64 2)).run Tryd.prog w = .ok (.int .u32 61) w := fun _ => by kernel_rfl
  have HI : Hid (isPr n = isPrFrom 0 n) := Lib.hid (isPr_from n (by omega))
  have HT := Lib.hid hT
  clear hT
  go_enter Tryd.func21, Tryd.ntmps21
  go_wp2_with fail
  go_loop [4, 11] (fun p i => ∃ k : Nat, k ≤ 5 ∧ i = .int .i64 k ∧ Hid (isPr n = isPrFrom k n)) (fun _ i => 5 - (intOf i).toNat)
  case atStart => exact ⟨0, by omega, rfl, HI⟩
  case round =>
    obtain ⟨k, hk, rfl, HI2⟩ := hrel
    clear HI
    have hk5 : k = 0 ∨ k = 1 ∨ k = 2 ∨ k = 3 ∨ k = 4 ∨ k = 5 := by omega
    rcases hk5 with rfl | rfl | rfl | rfl | rfl | rfl
    · by_cases hd : n % 2 = 0
      · have c : ((n : Int) % 2 == 0) = true := by simp; omega
        have HE : Hid (isPr n = ((n : Int) == 2)) := Lib.hid (by rw [HI2.out, isPrFrom0, if_pos hd]; exact (natEq n _).symm)
        clear hd HI2
        go_wp2_with fail
        go_ret
        exact ⟨by rw [HE.out]; rfl, Below.refl _ _⟩
      · have c : ((n : Int) % 2 == 0) = false := by simp; omega
        have HE : Hid (isPr n = isPrFrom 1 n) := Lib.hid (by rw [HI2.out, isPrFrom0, if_neg hd])
        clear hd HI2
        go_wp2_with fail
        go_round
        case rel => exact ⟨1, by omega, by go_num, HE⟩
        case measure => simp [intOf]
    · by_cases hd : n % 3 = 0
      · have c : ((n : Int) % 3 == 0) = true := by simp; omega
        have HE : Hid (isPr n = ((n : Int) == 3)) := Lib.hid (by rw [HI2.out, isPrFrom1, if_pos hd]; exact (natEq n _).symm)
        clear hd HI2
        go_wp2_with fail
        go_ret
        exact ⟨by rw [HE.out]; rfl, Below.refl _ _⟩
      · have c : ((n : Int) % 3 == 0) = false := by simp; omega
        have HE : Hid (isPr n = isPrFrom 2 n) := Lib.hid (by rw [HI2.out, isPrFrom1, if_neg hd])
        clear hd HI2
        go_wp2_with fail
        go_round
        case rel => exact ⟨2, by omega, by go_num, HE⟩
        case measure => simp [intOf]
    · by_cases hd : n % 5 = 0
      · have c : ((n : Int) % 5 == 0) = true := by simp; omega
        have HE : Hid (isPr n = ((n : Int) == 5)) := Lib.hid (by rw [HI2.out, isPrFrom2, if_pos hd]; exact (natEq n _).symm)
        clear hd HI2
        go_wp2_with fail
        go_ret
        exact ⟨by rw [HE.out]; rfl, Below.refl _ _⟩
      · have c : ((n : Int) % 5 == 0) = false := by simp; omega
        have HE : Hid (isPr n = isPrFrom 3 n) := Lib.hid (by rw [HI2.out, isPrFrom2, if_neg hd])
        clear hd HI2
        go_wp2_with fail
        go_round
        case rel => exact ⟨3, by omega, by go_num, HE⟩
        case measure => simp [intOf]
    · by_cases hd : n % 7 = 0
      · have c : ((n : Int) % 7 == 0) = true := by simp; omega
        have HE : Hid (isPr n = ((n : Int) == 7)) := Lib.hid (by rw [HI2.out, isPrFrom3, if_pos hd]; exact (natEq n _).symm)
        clear hd HI2
        go_wp2_with fail
        go_ret
        exact ⟨by rw [HE.out]; rfl, Below.refl _ _⟩
      · have c : ((n : Int) % 7 == 0) = false := by simp; omega
        have HE : Hid (isPr n = isPrFrom 4 n) := Lib.hid (by rw [HI2.out, isPrFrom3, if_neg hd])
        clear hd HI2
        go_wp2_with fail
        go_round
        case rel => exact ⟨4, by omega, by go_num, HE⟩
        case measure => simp [intOf]
    · by_cases hd : n % 61 = 0
      · have c : ((n : Int) % 61 == 0) = true := by simp; omega
        have HE : Hid (isPr n = ((n : Int) == 61)) := Lib.hid (by rw [HI2.out, isPrFrom4, if_pos hd]; exact (natEq n _).symm)
        clear hd HI2
        go_wp2_with fail
        go_ret
        exact ⟨by rw [HE.out]; rfl, Below.refl _ _⟩
      · have c : ((n : Int) % 61 == 0) = false := by simp; omega
        have HE : Hid (isPr n = isPrFrom 5 n) := Lib.hid (by rw [HI2.out, isPrFrom4, if_neg hd])
        clear hd HI2
        go_wp2_with fail
        go_round
        case rel => exact ⟨5, by omega, by go_num, HE⟩
        case measure => simp [intOf]
    · have HS : Hid (isPr n = strongFrom n 0) := Lib.hid (by rw [HI2.out, isPrFrom5, strong_from])
      clear HI2 i0 i1 i2 i3 i4
      have e1 : ((n : Int) - 1) = ((n - 1 : Nat) : Int) := by omega
      have HE1 := Lib.hid e1
      clear e1
      have htz := ctz32_lt (n - 1) (by omega) (by omega)
      go_wp2_with fail
      rw [HE1.out]
      refine (tz32_any (n - 1) (by omega) _ HT.out).mono ?_
      rintro e w' ⟨rfl, rfl⟩
      obtain ⟨tz, etz⟩ : ∃ tz, Lib.ctz 32 (n - 1) = tz := ⟨_, rfl⟩
      have HP := Lib.hid (fun b hb => prob_calls n b (Lib.ctz 32 (n - 1)) (by omega) hn hb htz)
      have HTZ := Lib.hid etz
      rw [etz] at htz HP ⊢
      clear etz
      go_wp2_with fail
      go_loopw [7, 26] (fun p i wr => ∃ k : Nat, k ≤ 3 ∧ i = .int .i64 k ∧ Hid (isPr n = strongFrom n k) ∧ Hid (Below w'.heap.size w' wr)) (fun _ i _ => 3 - (intOf i).toNat)
      case atStart => exact ⟨0, by omega, rfl, HS, Below.refl _ _⟩
      case round =>
        obtain ⟨k, hk, rfl, HI3, HB⟩ := hrel
        clear HS
        have hk3 : k = 0 ∨ k = 1 ∨ k = 2 ∨ k = 3 := by omega
        rcases hk3 with rfl | rfl | rfl | rfl
        · go_wp2_with fail
          refine (HP.out 2 (by omega) _).mono ?_
          rintro e w2 ⟨rfl, hb2⟩
          have HB3 := Lib.hid (HB.out.trans (hb2.mono HB.out.size))
          clear hb2
          cases hp : prob n 2 tz with
          | true =>
            have HE : Hid (isPr n = strongFrom n 1) := Lib.hid (by rw [HI3.out, strongFrom0, HTZ.out, hp]; rfl)
            clear hp HI3
            go_wp2_with fail
            go_roundw
            case rel => exact ⟨1, by omega, by go_num, HE, HB3⟩
            case measure => simp [intOf]
          | false =>
            have HE : Hid (isPr n = false) := Lib.hid (by rw [HI3.out, strongFrom0, HTZ.out, hp]; rfl)
            clear hp HI3
            go_wp2_with fail
            go_ret
            exact ⟨by rw [HE.out]; rfl, HB3.out⟩
        · go_wp2_with fail
          refine (HP.out 7 (by omega) _).mono ?_
          rintro e w2 ⟨rfl, hb2⟩
          have HB3 := Lib.hid (HB.out.trans (hb2.mono HB.out.size))
          clear hb2
          cases hp : prob n 7 tz with
          | true =>
            have HE : Hid (isPr n = strongFrom n 2) := Lib.hid (by rw [HI3.out, strongFrom1, HTZ.out, hp]; rfl)
            clear hp HI3
            go_wp2_with fail
            go_roundw
            case rel => exact ⟨2, by omega, by go_num, HE, HB3⟩
            case measure => simp [intOf]
          | false =>
            have HE : Hid (isPr n = false) := Lib.hid (by rw [HI3.out, strongFrom1, HTZ.out, hp]; rfl)
            clear hp HI3
            go_wp2_with fail
            go_ret
            exact ⟨by rw [HE.out]; rfl, HB3.out⟩
        · go_wp2_with fail
          refine (HP.out 61 (by omega) _).mono ?_
          rintro e w2 ⟨rfl, hb2⟩
          have HB3 := Lib.hid (HB.out.trans (hb2.mono HB.out.size))
          clear hb2
          cases hp : prob n 61 tz with
          | true =>
            have HE : Hid (isPr n = strongFrom n 3) := Lib.hid (by rw [HI3.out, strongFrom2, HTZ.out, hp]; rfl)
            clear hp HI3
            go_wp2_with fail
            go_roundw
            case rel => exact ⟨3, by omega, by go_num, HE, HB3⟩
            case measure => simp [intOf]
          | false =>
            have HE : Hid (isPr n = false) := Lib.hid (by rw [HI3.out, strongFrom2, HTZ.out, hp]; rfl)
            clear hp HI3
            go_wp2_with fail
            go_ret
            exact ⟨by rw [HE.out]; rfl, HB3.out⟩
        · have HE : Hid (isPr n = true) := Lib.hid (by rw [HI3.out, strongFrom3])
          clear HI3
          go_wp2_with fail
          go_ret
          exact ⟨by rw [HE.out]; rfl, HB.out⟩

end Go.Proofs.YtgmooidagkbheaaDoor
