/-
  natural.Shr: a number divided by a power of two.
-/
import Derived.Test.YtgmooidagkbheaaShl
namespace Go.Proofs.Ytgmooidagkbheaa
open Go.RowKit Go.Proofs.YtgmooidagkbheaaW.PrintWords
set_option linter.unusedVariables false

theorem or64 (lo hi : Nat) (h : hi < 4294967296) (hlo : lo < 4294967296) : Go.bits .or .u64 (lo : Int) ((hi * 4294967296 : Nat) : Int) = ((lo + hi * 4294967296 : Nat) : Int) := by
  have h1 : (BitVec.ofInt 64 ((hi * 4294967296 : Nat) : Int)).toNat = hi * 4294967296 := by
    rw [BitVec.ofInt_natCast, BitVec.toNat_ofNat]; exact Nat.mod_eq_of_lt (by omega)
  have h2 : (BitVec.ofInt 64 (lo : Int)).toNat = lo := by
    rw [BitVec.ofInt_natCast, BitVec.toNat_ofNat]; exact Nat.mod_eq_of_lt (by omega)
  show IntKind.u64.wrap ((BitVec.ofInt 64 (lo : Int) ||| BitVec.ofInt 64 ((hi * 4294967296 : Nat) : Int)).toNat : Int) = _
  rw [BitVec.toNat_or, h1, h2, Nat.or_comm]
  have e3 : hi * 4294967296 ||| lo = lo + hi * 4294967296 := by
    have := Nat.shiftLeft_add_eq_or_of_lt (i := 32) (b := lo) (by omega) hi
    rw [Nat.shiftLeft_eq] at this
    rw [← this, Nat.add_comm]
  rw [e3]
  exact wrap_u64_nat _ (by omega)

theorem cast_shr (n s : Nat) : ((n : Nat) : Int) / 2 ^ s % 4294967296 = ((n / 2 ^ s % 4294967296 : Nat) : Int) := by
  rw [Int.natCast_emod, Int.natCast_ediv, Int.natCast_pow]
  rfl

/-- What the loop of Shr keeps: Z holds the first k digits of T, shifted. -/
structure SrInv (T : Nat) (Z : List Nat) (s k zl : Nat) : Prop where mk ::
  len : Z.length = zl
  dig : Dig Z
  eq : val (Z.take k) = (T / 2 ^ s) % 4294967296 ^ k
theorem SrInv.start (T s zl : Nat) : SrInv T (List.replicate zl 0) s 0 zl :=
  ⟨by simp, Dig.replicate _, by simp [val, Nat.mod_one]⟩

theorem shr_digit (x y r s : Nat) (hs : s < 32) : (x + 4294967296 * (y + 4294967296 * r)) / 2 ^ s % 4294967296 = (x + y * 4294967296) / 2 ^ s % 4294967296 := by
  have e : x + 4294967296 * (y + 4294967296 * r) = (x + y * 4294967296) + 2 ^ s * (4294967296 * (2 ^ (32 - s) * r)) := by
    have h1 := pow_split s hs
    have h2 : 2 ^ s * (4294967296 * (2 ^ (32 - s) * r)) = 4294967296 * (2 ^ s * 2 ^ (32 - s)) * r := by
      rw [Nat.mul_left_comm, ← Nat.mul_assoc (2 ^ s), ← Nat.mul_assoc]
    rw [h2, h1, Nat.mul_add, ← Nat.mul_assoc]
    omega
  rw [e, Nat.add_mul_div_left _ _ (Nat.two_pow_pos s), Nat.add_mul_mod_self_left]

theorem val_drop_two (l : List Nat) (j : Nat) : ∃ r, val (l.drop j) = l.getD j 0 + 4294967296 * (l.getD (j + 1) 0 + 4294967296 * r) := by
  have e1 : ∀ (x : Nat) (m : List Nat), val (x :: m) = x + 4294967296 * val m := fun _ _ => rfl
  have step : ∀ j, val (l.drop j) = l.getD j 0 + 4294967296 * val (l.drop (j + 1)) := by
    intro j
    by_cases h : j < l.length
    · rw [drop_getD _ _ h, e1]
    · rw [List.drop_eq_nil_of_le (by omega), List.drop_eq_nil_of_le (by omega), List.getD_eq_getElem?_getD, List.getElem?_eq_none (by omega)]
      rfl
  exact ⟨val (l.drop (j + 1 + 1)), by rw [step j, step (j + 1)]⟩

theorem val_drop_div {l : List Nat} (hl : Dig l) (k : Nat) (h : k ≤ l.length) : val (l.drop k) = val l / 4294967296 ^ k := by
  have h1 := val_lt (hl.take k)
  rw [List.length_take, Nat.min_eq_left h] at h1
  rw [val_take_drop l k h, Nat.add_mul_div_left _ _ (Nat.pow_pos (by decide)), Nat.div_eq_of_lt h1, Nat.zero_add]
theorem val_drop_add {l : List Nat} (hl : Dig l) (j k : Nat) (h : j + k ≤ l.length) : val (l.drop (j + k)) = val (l.drop j) / 4294967296 ^ k := by
  rw [val_drop_div hl _ h, val_drop_div hl _ (by omega), Nat.div_div_eq_div_mul, Nat.pow_add]

theorem SrInv.step {l Z : List Nat} {ws s k zl : Nat} (h : SrInv (val (l.drop ws)) Z s k zl) (hk : ws + k < l.length) (hz : k < zl) (hl : Dig l) (hs : s < 32) :
    SrInv (val (l.drop ws)) (Z.set k ((l.getD (ws + k) 0 + l.getD (ws + k + 1) 0 * 4294967296) / 2 ^ s % 4294967296)) s (k + 1) zl := by
  refine ⟨by rw [List.length_set]; exact h.len, h.dig.set _ _ (Nat.mod_lt _ (by decide)), ?_⟩
  rw [val_take_set (by rw [h.len]; exact hz), h.eq]
  obtain ⟨r, hr⟩ := val_drop_two l (ws + k)
  rw [← shr_digit _ _ r s hs, ← hr, val_drop_add hl ws k (by omega), Nat.div_div_eq_div_mul _ (4294967296 ^ k), Nat.mul_comm (4294967296 ^ k) (2 ^ s), ← Nat.div_div_eq_div_mul]
  generalize val (l.drop ws) / 2 ^ s = T
  rw [Nat.pow_succ, Nat.mod_mul]

theorem SrInv.last {l Z : List Nat} {ws s zl : Nat} (h : SrInv (val (l.drop ws)) Z s zl zl) (hl : Dig l) (hz : l.length - ws = zl) (hw : ws ≤ l.length) : val Z = val l / 2 ^ (32 * ws + s) := by
  have e := h.eq
  rw [List.take_of_length_le (by rw [h.len]; exact Nat.le_refl _)] at e
  have h1 := val_lt (hl.drop ws)
  rw [List.length_drop, hz] at h1
  rw [Nat.mod_eq_of_lt (Nat.lt_of_le_of_lt (Nat.div_le_self _ _) h1)] at e
  rw [e, Nat.pow_add, ← Nat.div_div_eq_div_mul, ← pow_words, ← val_drop_div hl ws hw]

set_option maxHeartbeats 4000000 in
set_option maxRecDepth 100000 in
theorem nshr_calls (v : Value) (l0 : List Nat) (n : Nat) (w : World) (h : Nv w v l0) (g1 : l0.length ≤ 1000000) (hn : n < 9223372036854775808) :
    Calls Try.prog 78 #[v, .int .i64 n] w fun e w' => (∃ v', e = .returned v' ∧ Nv w' v' (dg (val l0 / 2 ^ n))) ∧ Below w.heap.size w w' := by
  have HT1 := Lib.hid (trim_num v l0 w h)
  have hl1 := dg_len_le h.digits
  have HD1 := Lib.hid (dig_dg (val l0))
  have HV1 := Lib.hid (val_dg (val l0))
  clear h
  generalize val l0 = n1 at *
  generalize dg n1 = l at *
  have q1 : l.length ≤ 1000000 := by omega
  obtain ⟨ws, hws⟩ : ∃ ws, n / 32 = ws := ⟨_, rfl⟩
  obtain ⟨s, hs⟩ : ∃ s, n % 32 = s := ⟨_, rfl⟩
  have e1 : (n : Int) / 32 = (ws : Int) := by omega
  have e2 : (n : Int) % 32 = (s : Int) := by omega
  have hs2 : s < 32 := by omega
  have hmax : max (n : Int) 0 = (n : Int) := by omega
  clear g1 hl1
  by_cases hz : l.length ≤ ws
  · have c0 : decide (l.length ≤ ws) = true := decide_eq_true hz
    go_enter Try.func78, Try.ntmps78
    go_wp2_with fail
    refine (HT1.out).mono ?_
    rintro e w1 ⟨u1, rfl, hv1, rfl⟩
    obtain ⟨A1, c1, rfl, a1, b1, hn1⟩ := hv1.open_
    clear hv1 hn1 b1 HT1 a1
    go_wp2_with fail
    go_ret
    refine ⟨⟨_, rfl, ?_⟩, Below.refl _ _⟩
    have hlt := val_lt HD1.out
    rw [HV1.out, pow_words] at hlt
    rw [Nat.div_eq_of_lt (Nat.lt_of_lt_of_le hlt (Nat.pow_le_pow_right (by decide) (by omega))), dg_zero]
    exact Nv.nil _
  · have c0 : decide (l.length ≤ ws) = false := decide_eq_false hz
    obtain ⟨tl, htl⟩ : ∃ tl, l.length - ws = tl := ⟨_, rfl⟩
    go_enter Try.func78, Try.ntmps78
    go_wp2_with fail
    refine (HT1.out).mono ?_
    rintro e w1 ⟨u1, rfl, hv1, rfl⟩
    obtain ⟨A1, c1, rfl, a1, b1, hn1⟩ := hv1.open_
    obtain ⟨b, o, rfl, t1, _⟩ := hn1.at_ (by omega)
    have HN1 := Lib.hid hn1
    clear hv1 hn1 HT1 t1
    have hmk := run_make_digits tl (by unfold LIM; omega)
    have hwl : ws ≤ l.length := by omega
    have HBA := Lib.hid ((Below.refl w.heap.size w).alloc (Nat.le_refl _) (.cells (dgs (List.replicate tl 0)).toArray 85))
    have HRW := Lib.hid (Row.made w (List.replicate tl 0))
    have HIN := Lib.hid (SrInv.start (val (l.drop ws)) s tl)
    have HZ := Lib.hid htl
    have HNS : Hid (32 * ws + s = n) := Lib.hid (by omega)
    go_wp2_with fail
    rw [e2]
    clear e1 e2 hmax hws hs
    go_loopw [33] (fun i wr => ∃ (k : Nat) (Z : List Nat), i = .int .i64 k ∧ k ≤ tl ∧ Hid (SrInv (val (l.drop ws)) Z s k tl) ∧ Hid (Row wr w.heap.size Z) ∧ Hid (Below w.heap.size w wr)) (fun i wr => tl - (intOf i).toNat)
    case atStart => exact ⟨0, _, rfl, Nat.zero_le _, HIN, HRW, HBA⟩
    case round =>
      obtain ⟨k, Z, rfl, hk, HI, HR, HB⟩ := hrel
      clear HIN HRW HBA hmk
      by_cases hlt : k < tl
      · obtain ⟨b', o', e0, t1, hc⟩ := (HN1.out.below HB.out).at_ (by omega)
        cases e0
        have hx := hc (ws + k) (by omega)
        rw [← Nat.add_assoc] at hx
        have hx2 := HD1.out.getD (ws + k)
        have hzl0 : k < Z.length := by have := HI.out.len; omega
        have HST := Lib.hid (HI.out.step (by omega) hlt HD1.out hs2)
        have hfz := HR.out.frozen k
        have hcl := HR.out.cell k hzl0
        by_cases hlt2 : k + 1 < tl
        · have hy := hc (ws + (k + 1)) (by omega)
          rw [← Nat.add_assoc] at hy
          rw [show ws + k + 1 = ws + (k + 1) from by omega] at HST
          have hy2 := HD1.out.getD (ws + (k + 1))
          clear hc t1
          generalize l.getD (ws + (k + 1)) 0 = y at *
          generalize l.getD (ws + k) 0 = x at *
          have hor : Go.bits .or .u64 (x : Int) ((y : Int) * 4294967296) = ((x + y * 4294967296 : Nat) : Int) := by
            have := or64 x y hy2 hx2
            rw [← this]
            congr 1
          have hdv : ((x + y * 4294967296 : Nat) : Int) / 2 ^ s % 4294967296 = (((x + y * 4294967296) / 2 ^ s % 4294967296 : Nat) : Int) := cast_shr _ _
          have HRW := Lib.hid (HR.out.store k ((x + y * 4294967296) / 2 ^ s % 4294967296) hzl0)
          generalize (x + y * 4294967296) / 2 ^ s % 4294967296 = z at *
          generalize x + y * 4294967296 = wd at *
          go_wp2_with fail
          go_roundw
          case rel => exact ⟨k + 1, _, rfl, by omega, HST, HRW, Lib.hid (HB.out.setCell (p := ⟨w.heap.size, k, none⟩) (Nat.le_refl _) _)⟩
          case measure => simp [intOf]; omega
        · rw [show l.getD (ws + k + 1) 0 = 0 from by rw [List.getD_eq_getElem?_getD, List.getElem?_eq_none (by omega)]; rfl, Nat.zero_mul, Nat.add_zero] at HST
          clear hc t1
          generalize l.getD (ws + k) 0 = x at *
          have hdv : (x : Int) / 2 ^ s % 4294967296 = ((x / 2 ^ s % 4294967296 : Nat) : Int) := cast_shr _ _
          have HRW := Lib.hid (HR.out.store k (x / 2 ^ s % 4294967296) hzl0)
          generalize x / 2 ^ s % 4294967296 = z at *
          go_wp2_with fail
          go_roundw
          case rel => exact ⟨k + 1, _, rfl, by omega, HST, HRW, Lib.hid (HB.out.setCell (p := ⟨w.heap.size, k, none⟩) (Nat.le_refl _) _)⟩
          case measure => simp [intOf]; omega
      · obtain rfl : k = tl := by omega
        have HL := Lib.hid (HI.out.last HD1.out HZ.out hwl)
        have HLN := Lib.hid HI.out.len
        have HZD := Lib.hid HI.out.dig
        go_wp2_with fail
        have hnv := HR.out.nv0 k (by rw [HLN.out]; exact Nat.le_refl _) (by unfold LIM; omega) HZD.out
        rw [HLN.out] at hnv
        have htr := trim_num _ _ _ hnv
        rw [HL.out, HV1.out, HNS.out] at htr
        have HTR := Lib.hid htr
        clear htr hnv
        refine (HTR.out).mono ?_
        rintro e w9 ⟨v9, rfl, hv9, rfl⟩
        have HV9 := Lib.hid hv9
        clear hv9
        go_wp2_with fail
        go_ret
        exact ⟨⟨v9, rfl, HV9.out⟩, HB.out⟩

end Go.Proofs.Ytgmooidagkbheaa
