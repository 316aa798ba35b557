/-
  natural.schoolbook, product (short factors) and Mul: the product.
-/
import Derived.Test.YtgmooidagkbheaaSub
namespace Go.Proofs.Ytgmooidagkbheaa
open Go.RowKit Go.Proofs.YtgmooidagkbheaaW.PrintWords
set_option linter.unusedVariables false

theorem val_set : ∀ (Z : List Nat) (k s : Nat), k < Z.length → val (Z.set k s) + 4294967296 ^ k * Z.getD k 0 = val Z + 4294967296 ^ k * s
  | [], k, s, h => by simp at h
  | x :: Z, 0, s, h => by simp [val]; omega
  | x :: Z, k + 1, s, h => by
    have ih := val_set Z k s (by simpa using h)
    have e : (x :: Z).getD (k + 1) 0 = Z.getD k 0 := by simp [List.getD_eq_getElem?_getD]
    rw [List.set_cons_succ, val, val, e, Nat.pow_succ]
    have : 4294967296 * (val (Z.set k s) + 4294967296 ^ k * Z.getD k 0) = 4294967296 * (val Z + 4294967296 ^ k * s) := by rw [ih]
    rw [Nat.mul_add, Nat.mul_add] at this
    rw [Nat.mul_comm (4294967296 ^ k) 4294967296, Nat.mul_assoc, Nat.mul_assoc]
    omega

/-- The outer loop: i rows are done. -/
structure MulOut (a b Z : List Nat) (i : Nat) : Prop where mk ::
  len : Z.length = a.length + b.length
  dig : Dig Z
  zero : ∀ j, i + b.length ≤ j → Z.getD j 0 = 0
  eq : val Z = val (a.take i) * val b
theorem getD_replicate (n j : Nat) : (List.replicate n 0).getD j 0 = 0 := by
  rw [List.getD_eq_getElem?_getD, List.getElem?_replicate]
  split <;> rfl
theorem MulOut.start (a b : List Nat) : MulOut a b (List.replicate (a.length + b.length) 0) 0 :=
  ⟨by simp, Dig.replicate _, fun j _ => getD_replicate _ _, by simp [val, val_replicate]⟩
theorem MulOut.skip {a b Z : List Nat} {i : Nat} (h : MulOut a b Z i) (hi : i < a.length) (h0 : a.getD i 0 = 0) : MulOut a b Z (i + 1) :=
  ⟨h.len, h.dig, fun j hj => h.zero j (by omega), by rw [h.eq, val_take_succ a i hi, h0, Nat.mul_zero, Nat.add_zero]⟩
/-- The inner loop: j digits of the row i are done; c is the carry. -/
structure MulIn (a b Z0 Z : List Nat) (i j c : Nat) : Prop where mk ::
  len : Z.length = a.length + b.length
  dig : Dig Z
  car : c < 4294967296
  zero : ∀ k, i + b.length ≤ k → Z.getD k 0 = 0
  eq : val Z + 4294967296 ^ (i + j) * c = val Z0 + 4294967296 ^ i * (a.getD i 0 * val (b.take j))
theorem MulOut.row {a b Z : List Nat} {i : Nat} (h : MulOut a b Z i) : MulIn a b Z Z i 0 0 :=
  ⟨h.len, h.dig, by omega, h.zero, by simp [val]⟩
theorem getD_set_ne {Z : List Nat} {k j s : Nat} (h : k ≠ j) : (Z.set k s).getD j 0 = Z.getD j 0 := by
  rw [List.getD_eq_getElem?_getD, List.getD_eq_getElem?_getD, List.getElem?_set_ne h]
/-- The digits of x * y + z + c as the program makes them. -/
theorem mul_digit (x y z c : Nat) (hx : x < 4294967296) (hy : y < 4294967296) (hz : z < 4294967296) (hc : c < 4294967296) :
    let h := x * y / 4294967296
    let l := x * y % 4294967296
    let l2 := (l + z + 0) % 4294967296
    let c1 := (l + z + 0) / 4294967296
    let l3 := (l2 + c + 0) % 4294967296
    let c2 := (l2 + c + 0) / 4294967296
    h + c1 < 4294967296 ∧ h + c1 + c2 < 4294967296 ∧ l3 + 4294967296 * (h + c1 + c2) = x * y + z + c := by
  have h1 : x * y ≤ 4294967295 * 4294967295 := Nat.mul_le_mul (by omega) (by omega)
  generalize x * y = p at *
  simp only []
  omega
theorem mul_step (P x y z c vz v0 Q vb l d : Nat) (h : vz + P * c = v0 + Q) (hd : l + 4294967296 * d = x * y + z + c) (vz' : Nat) (hs : vz' + P * z = vz + P * l) (hq : vb = Q + P * (x * y)) :
    vz' + (P * 4294967296) * d = v0 + vb := by
  have : P * (l + 4294967296 * d) = P * (x * y + z + c) := by rw [hd]
  rw [Nat.mul_add, Nat.mul_add, Nat.mul_add, ← Nat.mul_assoc] at this
  omega
theorem MulIn.step {a b Z0 Z : List Nat} {i j c l d : Nat} (h : MulIn a b Z0 Z i j c) (hi : i < a.length) (hj : j < b.length) (hl : l < 4294967296) (hd : d < 4294967296)
    (e : l + 4294967296 * d = a.getD i 0 * b.getD j 0 + Z.getD (i + j) 0 + c) : MulIn a b Z0 (Z.set (i + j) l) i (j + 1) d := by
  refine ⟨by rw [List.length_set]; exact h.len, h.dig.set _ _ hl, hd, fun k hk => ?_, ?_⟩
  · rw [getD_set_ne (by omega)]
    exact h.zero k hk
  · have hs := val_set Z (i + j) l (by rw [h.len]; omega)
    rw [← Nat.add_assoc, Nat.pow_succ, val_take_succ b j hj]
    refine mul_step _ _ _ _ _ _ _ _ _ _ _ h.eq e _ hs ?_
    rw [Nat.mul_add, Nat.mul_add, Nat.pow_add]
    congr 1
    rw [Nat.mul_assoc]
    congr 1
    rw [Nat.mul_left_comm]
theorem MulIn.last {a b Z0 Z : List Nat} {i c : Nat} (h : MulIn a b Z0 Z i b.length c) (h0 : MulOut a b Z0 i) (hi : i < a.length) : MulOut a b (Z.set (i + b.length) c) (i + 1) := by
  refine ⟨by rw [List.length_set]; exact h.len, h.dig.set _ _ h.car, fun k hk => ?_, ?_⟩
  · rw [getD_set_ne (by omega)]
    exact h.zero k (by omega)
  · have hs := val_set Z (i + b.length) c (by rw [h.len]; omega)
    rw [h.zero _ (Nat.le_refl _), Nat.mul_zero, Nat.add_zero, h.eq, List.take_length, h0.eq] at hs
    rw [hs, val_take_succ a i hi, Nat.add_mul, Nat.mul_assoc]

set_option maxHeartbeats 4000000 in
set_option maxRecDepth 100000 in
theorem school_calls (v1 v2 : Value) (a b : List Nat) (w : World) (h1 : Nv w v1 a) (h2 : Nv w v2 b) (g1 : a.length ≤ 1000000) (g2 : b.length ≤ 1000000) :
    Calls Try.prog 100 #[v1, v2] w fun e w' => (∃ v' Z, e = .returned v' ∧ Nv w' v' Z ∧ Z.length = a.length + b.length ∧ val Z = val a * val b) ∧ Below w.heap.size w w' := by
  have HD1 := Lib.hid h1.digits
  have HD2 := Lib.hid h2.digits
  obtain ⟨A1, c1, rfl, a1, b1, hn1⟩ := h1.open_
  obtain ⟨A2, c2, rfl, a2, b2, hn2⟩ := h2.open_
  have HN1 := Lib.hid hn1
  have HN2 := Lib.hid hn2
  clear h1 h2 hn1 hn2 b1 b2 a1 a2
  have hmk := run_make_digits (a.length + b.length) (by unfold LIM; omega)
  rw [show ((a.length + b.length : Nat) : Int) = (a.length : Int) + (b.length : Int) from by omega] at hmk
  have HBA := Lib.hid ((Below.refl w.heap.size w).alloc (Nat.le_refl _) (.cells (dgs (List.replicate (a.length + b.length) 0)).toArray 85))
  have HRW := Lib.hid (Row.made w (List.replicate (a.length + b.length) 0))
  have HIN := Lib.hid (MulOut.start a b)
  go_enter Try.func100, Try.ntmps100
  go_wp2_with fail
  go_loopw [23] (fun i wr => ∃ (k : Nat) (Z : List Nat), i = .int .i64 k ∧ k ≤ a.length ∧ Hid (MulOut a b Z k) ∧ Hid (Row wr w.heap.size Z) ∧ Hid (Below w.heap.size w wr)) (fun i _ => a.length - (intOf i).toNat)
  case atStart => exact ⟨0, _, rfl, Nat.zero_le _, HIN, HRW, HBA⟩
  case round =>
    obtain ⟨k, Z, rfl, hk, HI, HR, HB⟩ := hrel
    clear HIN HRW HBA hmk
    by_cases hlt2 : k < a.length
    · obtain ⟨bk, o, rfl, t1, hc⟩ := (HN1.out.below HB.out).at_ (by omega)
      have hx := hc k (by omega)
      clear hc t1
      by_cases h0 : a.getD k 0 = 0
      · have HI2 := Lib.hid (HI.out.skip hlt2 h0)
        rw [h0] at hx
        clear HI h0
        go_wp2_with fail
        go_roundw
        case rel => exact ⟨k + 1, Z, by go_num, by omega, HI2, HR, HB⟩
        case measure => simp [intOf]; omega
      · have HRI := Lib.hid HI.out.row
        have hxl := HD1.out
        have hx32 : a.getD k 0 < 4294967296 := getD_lt HD1.out k
        clear hxl
        obtain ⟨x, ex⟩ : ∃ x, a.getD k 0 = x := ⟨_, rfl⟩
        have HEX := Lib.hid ex
        rw [ex] at hx h0 hx32
        have hx0 : ((x : Int) == 0) = false := by simp; omega
        clear ex h0
        obtain ⟨i, hi, hz, hsz, hby⟩ := info_parts infoU32
        have hcut := cut_from (P := Try.prog) 23 85 .i64 Try.underlying23 hi 1 hsz (some ⟨w.heap.size, 0, none⟩) (a.length + b.length) (a.length + b.length) (k : Int) (by omega) (by omega)
        rw [Int.toNat_natCast, if_neg (by omega)] at hcut
        clear hi hz hsz hby
        go_wp2_with fail
        obtain ⟨wo, rfl⟩ : ∃ wo : World, wo = wr := ⟨_, rfl⟩
        go_loopw [9, 35] (fun cv i wr => ∃ (j : Nat) (Y : List Nat) (c : Nat), cv = .int .u32 c ∧ i = .int .i64 j ∧ j ≤ b.length ∧ Hid (MulIn a b Z Y k j c) ∧ Hid (Row wr w.heap.size Y) ∧ Hid (Below w.heap.size w wr)) (fun _ i _ => b.length - (intOf i).toNat)
        case atStart => exact ⟨0, Z, 0, rfl, rfl, Nat.zero_le _, HRI, HR, HB⟩
        case round =>
          clear HR HB HRI
          obtain ⟨j, Y, c, rfl, rfl, hj, HM, HR, HB⟩ := hrel
          by_cases hlt3 : j < b.length
          · obtain ⟨bk2, o2, rfl, t2, hc2⟩ := (HN2.out.below HB.out).at_ (by omega)
            have hy := hc2 j (by omega)
            have hzl : k + j < Y.length := by have := HM.out.len; omega
            have hz := HR.out.cell (k + j) hzl
            have hfz := HR.out.frozen (k + j)
            have hy32 := getD_lt HD2.out j
            have hz32 := HM.out.dig.getD (k + j)
            have hc32 := HM.out.car
            obtain ⟨y, ey⟩ : ∃ y, b.getD j 0 = y := ⟨_, rfl⟩
            obtain ⟨z, ez⟩ : ∃ z, Y.getD (k + j) 0 = z := ⟨_, rfl⟩
            have HEY := Lib.hid ey
            have HEZ := Lib.hid ez
            rw [ey] at hy hy32
            rw [ez] at hz hz32
            clear ey ez t2 hc2
            obtain ⟨m1, m2, m3⟩ := mul_digit x y z c hx32 hy32 hz32 hc32
            have HC1 := Lib.hid (mul32_calls x y hx32 hy32 wr)
            have l0 : x * y % 4294967296 < 4294967296 := Nat.mod_lt _ (by omega)
            have HC2 := Lib.hid (add32_calls (x * y % 4294967296) z 0 l0 hz32 (by omega) wr)
            have l2 : (x * y % 4294967296 + z + 0) % 4294967296 < 4294967296 := Nat.mod_lt _ (by omega)
            have HC3 := Lib.hid (add32_calls ((x * y % 4294967296 + z + 0) % 4294967296) c 0 l2 hc32 (by omega) wr)
            have l3 : ((x * y % 4294967296 + z + 0) % 4294967296 + c + 0) % 4294967296 < 4294967296 := Nat.mod_lt _ (by omega)
            have HST := Lib.hid (HM.out.step hlt2 hlt3 l3 m2 (by rw [HEX.out, HEY.out, HEZ.out]; exact m3))
            clear m3
            generalize x * y / 4294967296 = h at *
            generalize x * y % 4294967296 = l at *
            generalize (l + z + 0) / 4294967296 = c1' at *
            generalize (l + z + 0) % 4294967296 = l' at *
            generalize (l' + c + 0) / 4294967296 = c2' at *
            generalize (l' + c + 0) % 4294967296 = l'' at *
            go_wp2_with fail
            refine (HC1.out).mono ?_
            rintro e w2 ⟨rfl, rfl⟩
            go_wp2_with fail
            refine (HC2.out).mono ?_
            rintro e w2 ⟨rfl, rfl⟩
            go_wp2_with fail
            refine (HC3.out).mono ?_
            rintro e w2 ⟨rfl, rfl⟩
            go_wp2_with fail
            go_roundw
            case rel => exact ⟨j + 1, Y.set (k + j) l'', h + c1' + c2', by go_num, by go_num, by omega, HST, Lib.hid (HR.out.store (k + j) l'' hzl), Lib.hid (HB.out.setCell (p := ⟨w.heap.size, k + j, none⟩) (by simp) _)⟩
            case measure => simp [intOf]; omega
          · obtain rfl : j = b.length := by omega
            have hzl : k + b.length < Y.length := by have := HM.out.len; omega
            have hz := HR.out.cell (k + b.length) hzl
            have hfz := HR.out.frozen (k + b.length)
            have HST := Lib.hid (HM.out.last HI.out hlt2)
            have HRS := Lib.hid (HR.out.store (k + b.length) c hzl)
            have HBS := Lib.hid (HB.out.setCell (p := ⟨w.heap.size, k + b.length, none⟩) (by simp) (.int .u32 (c : Int)))
            go_wp2_with fail
            go_roundw
            case rel => exact ⟨k + 1, Y.set (k + b.length) c, by go_num, by omega, HST, HRS, HBS⟩
            case measure => simp [intOf]; omega
    · obtain rfl : k = a.length := by omega
      have HL := Lib.hid HI.out.len
      have HE := Lib.hid HI.out.eq
      have HDG := Lib.hid HI.out.dig
      go_wp2_with fail
      go_ret
      have hnv := HR.out.nv0 (a.length + b.length) (by rw [HL.out]; exact Nat.le_refl _) (by unfold LIM; omega) HDG.out
      rw [HL.out] at hnv
      refine ⟨⟨_, Z, rfl, hnv, HL.out, ?_⟩, HB.out⟩
      rw [HE.out, List.take_length]

set_option maxHeartbeats 1000000 in
set_option maxRecDepth 100000 in
theorem product_calls (v1 v2 : Value) (a b : List Nat) (w : World) (h1 : Nv w v1 a) (h2 : Nv w v2 b) (g1 : a.length ≤ 1000000) (g2 : b.length ≤ 1000000) (g : a.length < 48 ∨ b.length < 48) :
    Calls Try.prog 88 #[v1, v2] w fun e w' => (∃ v' Z, e = .returned v' ∧ Nv w' v' Z ∧ Z.length = a.length + b.length ∧ val Z = val a * val b) ∧ Below w.heap.size w w' := by
  obtain ⟨A1, c1, rfl, a1, b1, hn1⟩ := h1.open_
  obtain ⟨A2, c2, rfl, a2, b2, hn2⟩ := h2.open_
  clear b1 b2 a1 a2 h1 h2
  rcases Nat.lt_or_ge a.length b.length with hlt | hge
  · have HC := Lib.hid (school_calls _ _ a b w hn1 hn2 g1 g2)
    clear hn1 hn2
    have h48 : a.length < 48 := by omega
    go_enter Try.func88, Try.ntmps88
    go_wp2_with fail
    refine (HC.out).mono ?_
    rintro e w1 ⟨⟨v', Z, rfl, hv, hl, he⟩, hb⟩
    have HV := Lib.hid hv
    have HL := Lib.hid hl
    have HE := Lib.hid he
    have HB := Lib.hid hb
    clear hv hl he hb
    go_wp2_with fail
    go_ret
    exact ⟨⟨_, Z, rfl, HV.out, HL.out, HE.out⟩, HB.out⟩
  · have HC := Lib.hid (school_calls _ _ b a w hn2 hn1 g2 g1)
    clear hn1 hn2
    have h48 : b.length < 48 := by omega
    have hnl : ¬ a.length < b.length := by omega
    go_enter Try.func88, Try.ntmps88
    go_wp2_with fail
    refine (HC.out).mono ?_
    rintro e w1 ⟨⟨v', Z, rfl, hv, hl, he⟩, hb⟩
    have HV := Lib.hid hv
    have HL := Lib.hid hl
    have HE := Lib.hid he
    have HB := Lib.hid hb
    clear hv hl he hb
    go_wp2_with fail
    go_ret
    exact ⟨⟨_, Z, rfl, HV.out, by rw [HL.out, Nat.add_comm], by rw [HE.out, Nat.mul_comm]⟩, HB.out⟩

set_option maxHeartbeats 1000000 in
set_option maxRecDepth 100000 in
theorem nmul_calls (v1 v2 : Value) (a b : List Nat) (w : World) (h1 : Nv w v1 a) (h2 : Nv w v2 b) (g1 : a.length ≤ 1000000) (g2 : b.length ≤ 1000000) (g : (dg (val a)).length < 48 ∨ (dg (val b)).length < 48) :
    Calls Try.prog 59 #[v1, v2] w fun e w' => (∃ v', e = .returned v' ∧ Nv w' v' (dg (val a * val b))) ∧ Below w.heap.size w w' := by
  have HT1 := Lib.hid (trim_num v1 a w h1)
  have HT2 := Lib.hid (trim_num v2 b w h2)
  have hl1 := dg_len_le h1.digits
  have hl2 := dg_len_le h2.digits
  have HC := Lib.hid (fun u1 u2 (x : Nv w u1 (dg (val a))) (y : Nv w u2 (dg (val b))) => product_calls u1 u2 _ _ w x y (by omega) (by omega) g)
  rw [val_dg, val_dg] at HC
  clear h1 h2 hl1 hl2 g
  generalize val a * val b = n at *
  generalize dg (val a) = l at *
  generalize dg (val b) = m at *
  go_enter Try.func59, Try.ntmps59
  go_wp2_with fail
  refine (HT1.out).mono ?_
  rintro e w1 ⟨u1, rfl, hv1, rfl⟩
  go_wp2_with fail
  refine (HT2.out).mono ?_
  rintro e w1 ⟨u2, rfl, hv2, rfl⟩
  have HC2 := Lib.hid (HC.out _ _ hv1 hv2)
  clear hv1 hv2 HC
  go_wp2_with fail
  refine (HC2.out).mono ?_
  rintro e w1 ⟨⟨v', Z, rfl, hv, hl, he⟩, hb⟩
  have ht := trim_num _ _ _ hv
  rw [he] at ht
  have HT3 := Lib.hid ht
  have HB := Lib.hid hb
  clear hv hl he hb ht
  go_wp2_with fail
  refine (HT3.out).mono ?_
  rintro e w2 ⟨v2, rfl, hv, rfl⟩
  have HV := Lib.hid hv
  clear hv
  go_wp2_with fail
  go_ret
  exact ⟨⟨_, rfl, HV.out⟩, HB.out⟩

end Go.Proofs.Ytgmooidagkbheaa
