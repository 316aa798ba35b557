/-
  natural.Shl: a number times a power of two.
-/
import Derived.Test.YtgmooidagkbheaaDs
namespace Go.Proofs.Ytgmooidagkbheaa
open Go.RowKit Go.Proofs.YtgmooidagkbheaaW.PrintWords
set_option linter.unusedVariables false

theorem sh_lt (x s : Nat) (hx : x < 4294967296) (hs : s < 32) : x * 2 ^ s < 18446744073709551616 := by
  have hp : 2 ^ s ≤ 2 ^ 32 := Nat.pow_le_pow_right (by decide) (by omega)
  have := Nat.mul_le_mul (Nat.le_of_lt_succ (show x < 4294967295 + 1 from hx)) hp
  omega
theorem wrap_u64_nat (n : Nat) (h : n < 18446744073709551616) : IntKind.u64.wrap (n : Int) = (n : Int) := by
  simp only [IntKind.wrap, IntKind.signed, IntKind.bits]
  simp
  omega

/-- What the loop of Shl keeps: Z holds the first k digits, shifted. -/
structure ShInv (l Z : List Nat) (ws s k zl : Nat) : Prop where mk ::
  len : Z.length = zl
  dig : Dig Z
  low : Z.getD (ws + k) 0 < 2 ^ s
  eq : val (Z.take (ws + k + 1)) = 4294967296 ^ ws * (val (l.take k) * 2 ^ s)
theorem val_take_replicate (n k : Nat) : val ((List.replicate n 0).take k) = 0 := by
  rw [List.take_replicate, val_replicate]
theorem ShInv.start (l : List Nat) (ws s zl : Nat) : ShInv l (List.replicate zl 0) ws s 0 zl :=
  ⟨by simp, Dig.replicate _, by rw [getD_replicate]; exact Nat.two_pow_pos s, by rw [val_take_replicate]; simp [val]⟩

theorem or32 (a b : Nat) (ha : a < 4294967296) (hb : b < 4294967296) : Go.bits .or .u32 (a : Int) (b : Int) = ((a ||| b : Nat) : Int) := by
  have h1 : ∀ n : Nat, n < 4294967296 → (BitVec.ofInt 32 (n : Int)).toNat = n := fun n h => by
    rw [BitVec.ofInt_natCast, BitVec.toNat_ofNat]; exact Nat.mod_eq_of_lt (by omega)
  show IntKind.u32.wrap ((BitVec.ofInt 32 (a : Int) ||| BitVec.ofInt 32 (b : Int)).toNat : Int) = _
  rw [BitVec.toNat_or, h1 a ha, h1 b hb]
  have : a ||| b < 2 ^ 32 := Nat.or_lt_two_pow (by omega) (by omega)
  show ((a ||| b : Nat) : Int) % 4294967296 = _
  omega
theorem pow_split (s : Nat) (hs : s < 32) : 2 ^ s * 2 ^ (32 - s) = 4294967296 := by
  rw [← Nat.pow_add, show s + (32 - s) = 32 from by omega]
theorem low_is (x s : Nat) (hs : s < 32) : x * 2 ^ s % 4294967296 = 2 ^ s * (x % 2 ^ (32 - s)) := by
  rw [← pow_split s hs, Nat.mul_comm x, Nat.mul_mod_mul_left]
theorem low_lt (x s c : Nat) (hs : s < 32) (hc : c < 2 ^ s) : c + x * 2 ^ s % 4294967296 < 4294967296 := by
  rw [low_is x s hs]
  have h1 := Nat.mod_lt x (Nat.two_pow_pos (32 - s))
  have h2 : 2 ^ s * (x % 2 ^ (32 - s) + 1) ≤ 2 ^ s * 2 ^ (32 - s) := Nat.mul_le_mul_left _ h1
  rw [pow_split s hs, Nat.mul_add, Nat.mul_one] at h2
  omega
theorem or_low (c x s : Nat) (hs : s < 32) (hc : c < 2 ^ s) : Go.bits .or .u32 (c : Int) ((x * 2 ^ s % 4294967296 : Nat) : Int) = ((c + x * 2 ^ s % 4294967296 : Nat) : Int) := by
  have h1 := low_lt x s c hs hc
  rw [or32 _ _ (by omega) (Nat.mod_lt _ (by decide))]
  congr 1
  rw [low_is x s hs, Nat.or_comm, Nat.add_comm, Nat.two_pow_add_eq_or_of_lt hc]
theorem high_lt (x s : Nat) (hx : x < 4294967296) : x * 2 ^ s / 4294967296 < 2 ^ s := by
  rw [Nat.div_lt_iff_lt_mul (by decide), Nat.mul_comm]
  exact Nat.mul_lt_mul_of_pos_left hx (Nat.two_pow_pos s)
theorem ShInv.step {l Z : List Nat} {ws s k zl : Nat} (h : ShInv l Z ws s k zl) (hk : k < l.length) (hz : ws + k + 1 < zl) (hl : Dig l) (hs : s < 32) :
    ShInv l ((Z.set (ws + k) (Z.getD (ws + k) 0 + l.getD k 0 * 2 ^ s % 4294967296)).set (ws + (k + 1)) (l.getD k 0 * 2 ^ s / 4294967296)) ws s (k + 1) zl := by
  have hx := hl.getD k
  have hh := high_lt (l.getD k 0) s hx
  have hp : 2 ^ s < 2 ^ 32 := Nat.pow_lt_pow_right (by decide) hs
  refine ⟨by rw [List.length_set, List.length_set]; exact h.len, (h.dig.set _ _ (low_lt _ _ _ hs h.low)).set _ _ (by omega), ?_, ?_⟩
  · rw [List.getD_eq_getElem?_getD, List.getElem?_set_self (by rw [List.length_set, h.len]; omega)]
    exact hh
  · rw [val_take_set (by rw [List.length_set, h.len]; omega), ← Nat.add_assoc, val_take_set (by rw [h.len]; omega), take_getD_succ l k]
    have e := h.eq
    rw [take_getD_succ Z] at e
    have e2 := Nat.mod_add_div (l.getD k 0 * 2 ^ s) 4294967296
    generalize l.getD k 0 * 2 ^ s % 4294967296 = lo at *
    generalize l.getD k 0 * 2 ^ s / 4294967296 = hi at *
    generalize l.getD k 0 = x at *
    generalize Z.getD (ws + k) 0 = c at *
    rw [Nat.mul_add, Nat.pow_succ, Nat.add_mul, Nat.mul_add, ← e]
    have e3 : 4294967296 ^ ws * (4294967296 ^ k * x * 2 ^ s) = 4294967296 ^ (ws + k) * lo + 4294967296 ^ (ws + k) * 4294967296 * hi := by
      rw [Nat.pow_add, Nat.mul_assoc (4294967296 ^ k) x, ← e2, Nat.mul_add, Nat.mul_add, Nat.mul_assoc, Nat.mul_assoc, Nat.mul_assoc]
    rw [e3]
    omega
theorem pow_words (ws : Nat) : 4294967296 ^ ws = 2 ^ (32 * ws) := by
  rw [Nat.pow_mul]
theorem ShInv.last {l Z : List Nat} {ws s zl : Nat} (h : ShInv l Z ws s l.length zl) (hz : ws + l.length + 1 = zl) : val Z = val l * 2 ^ (32 * ws + s) := by
  have e := h.eq
  rw [List.take_of_length_le (by rw [h.len]; omega), List.take_length, pow_words] at e
  rw [e, Nat.pow_add, ← Nat.mul_assoc, ← Nat.mul_assoc, Nat.mul_comm (2 ^ (32 * ws)) (val l)]

set_option maxHeartbeats 4000000 in
set_option maxRecDepth 100000 in
theorem nshl_calls (v : Value) (l0 : List Nat) (n : Nat) (w : World) (h : Nv w v l0) (g1 : l0.length ≤ 1000000) (hn : n ≤ 16777216) :
    Calls Try.prog 74 #[v, .int .i64 n] w fun e w' => (∃ v', e = .returned v' ∧ Nv w' v' (dg (val l0 * 2 ^ n))) ∧ Below w.heap.size w w' := by
  have HT1 := Lib.hid (trim_num v l0 w h)
  have hl1 := dg_len_le h.digits
  have HD1 := Lib.hid (dig_dg (val l0))
  have HV1 := Lib.hid (val_dg (val l0))
  clear h
  generalize val l0 = n1 at *
  generalize dg n1 = l at *
  have q1 : l.length ≤ 1000000 := by omega
  obtain ⟨ws, hws⟩ : ∃ ws, n / 32 = ws := ⟨_, rfl⟩
  obtain ⟨s, hs⟩ : ∃ s, n % 32 = s := ⟨_, rfl⟩
  have e1 : (n : Int) / 32 = (ws : Int) := by omega
  have e2 : (n : Int) % 32 = (s : Int) := by omega
  have hws2 : ws ≤ 524288 := by omega
  have hs2 : s < 32 := by omega
  have hmax : max (n : Int) 0 = (n : Int) := by omega
  have hmin : min (n : Int) 16777216 = (n : Int) := by omega
  clear g1 hl1
  by_cases hz : l.length = 0
  · have hl0 : l = [] := List.length_eq_zero_iff.1 hz
    have hn0 : n1 = 0 := by rw [← HV1.out, hl0]; rfl
    go_enter Try.func74, Try.ntmps74
    go_wp2_with fail
    refine (HT1.out).mono ?_
    rintro e w1 ⟨u1, rfl, hv1, rfl⟩
    obtain ⟨A1, c1, rfl, a1, b1, hn1⟩ := hv1.open_
    clear hv1 hn1 b1 HT1 a1
    have c0 : ((l.length : Int) == 0) = true := by rw [hz]; rfl
    go_wp2_with fail
    go_ret
    refine ⟨⟨_, rfl, ?_⟩, Below.refl _ _⟩
    rw [hn0, Nat.zero_mul, dg_zero]
    exact Nv.nil _
  · go_enter Try.func74, Try.ntmps74
    go_wp2_with fail
    refine (HT1.out).mono ?_
    rintro e w1 ⟨u1, rfl, hv1, rfl⟩
    obtain ⟨A1, c1, rfl, a1, b1, hn1⟩ := hv1.open_
    have HN1 := Lib.hid hn1
    clear hv1 hn1 b1 HT1 a1
    obtain ⟨zl, hzl⟩ : ∃ zl, ws + l.length + 1 = zl := ⟨_, rfl⟩
    have e3 : (ws : Int) + (l.length : Int) + 1 = (zl : Int) := by omega
    have hmk := run_make_digits zl (by unfold LIM; omega)
    obtain ⟨tl, htl⟩ : ∃ tl, zl - ws = tl := ⟨_, rfl⟩
    have c0 : ((l.length : Int) == 0) = false := beq_eq_false_iff_ne.2 (by omega)
    have HBA := Lib.hid ((Below.refl w.heap.size w).alloc (Nat.le_refl _) (.cells (dgs (List.replicate zl 0)).toArray 85))
    have HRW := Lib.hid (Row.made w (List.replicate zl 0))
    have HIN := Lib.hid (ShInv.start l ws s zl)
    have HZ := Lib.hid hzl
    go_wp2_with fail
    rw [e2]
    clear e1 e2 hmax hmin
    go_loopw [36] (fun i wr => ∃ (k : Nat) (Z : List Nat), i = .int .i64 k ∧ k ≤ l.length ∧ Hid (ShInv l Z ws s k zl) ∧ Hid (Row wr w.heap.size Z) ∧ Hid (Below w.heap.size w wr)) (fun i wr => zl - (intOf i).toNat)
    case atStart => exact ⟨0, _, rfl, Nat.zero_le _, HIN, HRW, HBA⟩
    case round =>
      obtain ⟨k, Z, rfl, hk, HI, HR, HB⟩ := hrel
      clear HIN HRW HBA hmk
      by_cases hlt : k < l.length
      · obtain ⟨b, o, rfl, t1, hc⟩ := (HN1.out.below HB.out).at_ (by omega)
        have hx := hc k (by omega)
        have hx2 := HD1.out.getD k
        have hzl0 : ws + k < Z.length := by have := HI.out.len; omega
        have hzl1 : ws + k + 1 < Z.length := by have := HI.out.len; omega
        have hfz := HR.out.frozen (ws + k)
        have hcl := HR.out.cell (ws + k) hzl0
        have hk1 : k < tl := by omega
        have hk2 : k + 1 < tl := by omega
        have HST := Lib.hid (HI.out.step (by omega) (by omega) HD1.out hs2)
        have wr1 := wrap_u64_nat (l.getD k 0 * 2 ^ s) (sh_lt _ _ hx2 hs2)
        have wr2 : (((l.getD k 0 * 2 ^ s : Nat)) : Int) % 4294967296 = ((l.getD k 0 * 2 ^ s % 4294967296 : Nat) : Int) := by omega
        have wr3 : (((l.getD k 0 * 2 ^ s : Nat)) : Int) / 4294967296 = ((l.getD k 0 * 2 ^ s / 4294967296 : Nat) : Int) := by omega
        have wr4 : ((l.getD k 0 * 2 ^ s / 4294967296 : Nat) : Int) % 4294967296 = ((l.getD k 0 * 2 ^ s / 4294967296 : Nat) : Int) := by
          have := high_lt (l.getD k 0) s hx2
          have hp : 2 ^ s < 2 ^ 32 := Nat.pow_lt_pow_right (by decide) hs2
          omega
        have wr5 := or_low (Z.getD (ws + k) 0) (l.getD k 0) s hs2 HI.out.low
        have R2 := HR.out.store (ws + k) (Z.getD (ws + k) 0 + l.getD k 0 * 2 ^ s % 4294967296) hzl0
        have hfz2 := R2.frozen (ws + (k + 1))
        have hcl2 := R2.cell (ws + (k + 1)) (by rw [List.length_set]; omega)
        have HR2 := Lib.hid (R2.store (ws + (k + 1)) (l.getD k 0 * 2 ^ s / 4294967296) (by rw [List.length_set]; omega))
        have wr0 : (l.getD k 0 : Int) * 2 ^ s = ((l.getD k 0 * 2 ^ s : Nat) : Int) := by push_cast; rfl
        clear hc t1 R2
        generalize Z.getD (ws + k) 0 + l.getD k 0 * 2 ^ s % 4294967296 = c2 at *
        generalize l.getD k 0 * 2 ^ s % 4294967296 = lo at *
        generalize l.getD k 0 * 2 ^ s / 4294967296 = hi at *
        generalize l.getD k 0 * 2 ^ s = wd at *
        generalize hX : l.getD k 0 = x at *
        generalize hC : Z.getD (ws + k) 0 = c at *
        go_wp2_with fail
        go_roundw
        case rel => exact ⟨k + 1, _, rfl, by omega, HST, HR2, Lib.hid ((HB.out.setCell (p := ⟨w.heap.size, ws + k, none⟩) (Nat.le_refl _) _).setCell (p := ⟨w.heap.size, ws + (k + 1), none⟩) (Nat.le_refl _) _)⟩
        case measure => have := HZ.out; simp [intOf]; omega
      · obtain rfl : k = l.length := by omega
        have HL := Lib.hid (HI.out.last HZ.out)
        have HLN := Lib.hid HI.out.len
        have HZD := Lib.hid HI.out.dig
        go_wp2_with fail
        have hnv := HR.out.nv0 zl (by rw [HLN.out]; exact Nat.le_refl _) (by unfold LIM; have := HZ.out; omega) HZD.out
        rw [HLN.out] at hnv
        have htr := trim_num _ _ _ hnv
        rw [HL.out, HV1.out, show 32 * ws + s = n from by omega] at htr
        have HTR := Lib.hid htr
        clear htr hnv
        refine (HTR.out).mono ?_
        rintro e w9 ⟨v9, rfl, hv9, rfl⟩
        have HV9 := Lib.hid hv9
        clear hv9
        go_wp2_with fail
        go_ret
        exact ⟨⟨v9, rfl, HV9.out⟩, HB.out⟩

end Go.Proofs.Ytgmooidagkbheaa
