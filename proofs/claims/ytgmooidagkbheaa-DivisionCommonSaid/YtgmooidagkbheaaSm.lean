/-
  division.subtractMultiple and addBack: a multiple of a number is taken from a part of a row; the number is added back.
-/
import Derived.Test.YtgmooidagkbheaaEst
namespace Go.Proofs.Ytgmooidagkbheaa
open Go.RowKit Go.Proofs.YtgmooidagkbheaaW.PrintWords
set_option linter.unusedVariables false

/-- Only the block g may have changed. -/
structure Only (g : Nat) (w w' : World) : Prop where mk ::
  size : w'.heap.size = w.heap.size
  block : ∀ k, k ≠ g → w'.heap[k]? = w.heap[k]?
theorem Only.refl (g : Nat) (w : World) : Only g w w := ⟨rfl, fun _ _ => rfl⟩
theorem Only.trans {g : Nat} {a b c : World} (h : Only g a b) (k : Only g b c) : Only g a c := ⟨k.size.trans h.size, fun i hi => (k.block i hi).trans (h.block i hi)⟩
theorem Only.setCell {g : Nat} {a b : World} (h : Only g a b) (o : Nat) (u : Value) : Only g a (b.setCell ⟨g, o, none⟩ u) :=
  h.trans ⟨by simp [World.setCell], fun k hk => Below.heap_setCell _ _ _ _ hk⟩
theorem Row.only {w w' : World} {g h : Nat} {l : List Nat} (hr : Row w h l) (ho : Only g w w') (hne : h ≠ g) : Row w' h l := ⟨(ho.block h hne).trans hr.out⟩

/-- What the loop of subtractMultiple keeps. -/
structure SmInv (U Z l : List Nat) (d j k ca bo : Nat) : Prop where mk ::
  len : Z.length = U.length
  dig : Dig Z
  car : ca < 4294967296
  brw : bo ≤ 1
  same : ∀ i, i < j ∨ j + k ≤ i → Z.getD i 0 = U.getD i 0
  eq : val Z + 4294967296 ^ j * (d * val (l.take k)) = val U + 4294967296 ^ (j + k) * (ca + bo)

theorem SmInv.start (U l : List Nat) (d j : Nat) (hU : Dig U) : SmInv U U l d j 0 0 0 :=
  ⟨rfl, hU, by decide, by decide, fun _ _ => rfl, by simp [val]⟩

theorem sm_carry (y d ca : Nat) (hy : y < 4294967296) (hd : d < 4294967296) (hc : ca < 4294967296) :
    (y * d % 4294967296 + ca) % 4294967296 + 4294967296 * (y * d / 4294967296 + (y * d % 4294967296 + ca) / 4294967296) = d * y + ca ∧ y * d / 4294967296 + (y * d % 4294967296 + ca) / 4294967296 < 4294967296 := by
  have h1 : y * d ≤ 18446744065119617025 := Nat.le_trans (Nat.mul_le_mul (show y ≤ 4294967295 by omega) (show d ≤ 4294967295 by omega)) (by decide)
  rw [Nat.mul_comm d y]
  generalize y * d = m at *
  omega

theorem sm_step (P B vZ vZ' vU x s T d y lo ca bo ca' bo' : Nat) (h1 : vZ + T = vU + P * (ca + bo)) (h2 : vZ' + P * x = vZ + P * s) (h3 : s + lo + bo = x + B * bo') (h4 : lo + B * ca' = d * y + ca) :
    vZ' + (T + P * (d * y)) = vU + P * B * (ca' + bo') := by
  have e : P * (s + lo + bo + (d * y + ca)) = P * (x + B * bo' + (lo + B * ca')) := by rw [h3, h4]
  have e1 : P * (s + lo + bo + (d * y + ca)) = P * s + P * lo + P * bo + (P * (d * y) + P * ca) := by simp only [Nat.mul_add]
  have e2 : P * (x + B * bo' + (lo + B * ca')) = P * x + P * B * bo' + (P * lo + P * B * ca') := by simp only [Nat.mul_add, Nat.mul_assoc]
  rw [Nat.mul_add] at h1
  rw [Nat.mul_add]
  omega

theorem SmInv.step {U Z l : List Nat} {d j k ca bo : Nat} (h : SmInv U Z l d j k ca bo) (hk : k < l.length) (hl : Dig l) (hd : d < 4294967296) (hj : j + k < U.length) (y lo ca' x : Nat)
    (ey : l.getD k 0 = y) (elo : (y * d % 4294967296 + ca) % 4294967296 = lo) (eca : y * d / 4294967296 + (y * d % 4294967296 + ca) / 4294967296 = ca') (ex : Z.getD (j + k) 0 = x) :
    SmInv U (Z.set (j + k) ((x + 4294967296 - lo - bo) % 4294967296)) l d j (k + 1) ca' (bor x lo bo) := by
  have hy := hl.getD k
  rw [ey] at hy
  obtain ⟨c1, c2⟩ := sm_carry y d ca hy hd h.car
  rw [elo, eca] at c1
  rw [eca] at c2
  have hx := h.dig.getD (j + k)
  rw [ex] at hx
  have hlo : lo < 4294967296 := by rw [← elo]; exact Nat.mod_lt _ (by decide)
  have hs := sub_digit x lo bo hx hlo h.brw
  have hv := val_set Z (j + k) ((x + 4294967296 - lo - bo) % 4294967296) (by rw [h.len]; exact hj)
  rw [ex] at hv
  refine ⟨by rw [List.length_set]; exact h.len, h.dig.set _ _ (Nat.mod_lt _ (by decide)), c2, bor_le _ _ _, fun i hi => ?_, ?_⟩
  · rw [getD_set_ne (by omega)]
    exact h.same i (by omega)
  · have e1 : 4294967296 ^ j * (d * val (l.take (k + 1))) = 4294967296 ^ j * (d * val (l.take k)) + 4294967296 ^ (j + k) * (d * y) := by
      rw [take_getD_succ l k, ey, Nat.mul_add, Nat.mul_add, Nat.pow_add]
      congr 1
      rw [Nat.mul_left_comm d, Nat.mul_assoc]
    rw [e1, ← Nat.add_assoc j k 1, Nat.pow_succ]
    exact sm_step _ _ _ _ _ _ _ _ _ _ _ _ _ _ _ h.eq hv hs c1

/-- What subtractMultiple has done. -/
structure SmEnd (U Z : List Nat) (V d j n bo : Nat) : Prop where mk ::
  len : Z.length = U.length
  dig : Dig Z
  brw : bo ≤ 1
  same : ∀ i, i < j ∨ j + n + 1 ≤ i → Z.getD i 0 = U.getD i 0
  eq : val Z + 4294967296 ^ j * (d * V) = val U + 4294967296 ^ (j + n + 1) * bo

theorem SmInv.last {U Z l : List Nat} {d j ca bo : Nat} (h : SmInv U Z l d j l.length ca bo) (hj : j + l.length < U.length) (x : Nat) (ex : Z.getD (j + l.length) 0 = x) :
    SmEnd U (Z.set (j + l.length) ((x + 4294967296 - ca - bo) % 4294967296)) (val l) d j l.length (bor x ca bo) := by
  have hx := h.dig.getD (j + l.length)
  rw [ex] at hx
  have hs := sub_digit x ca bo hx h.car h.brw
  have hv := val_set Z (j + l.length) ((x + 4294967296 - ca - bo) % 4294967296) (by rw [h.len]; exact hj)
  rw [ex] at hv
  refine ⟨by rw [List.length_set]; exact h.len, h.dig.set _ _ (Nat.mod_lt _ (by decide)), bor_le _ _ _, fun i hi => ?_, ?_⟩
  · rw [getD_set_ne (by omega)]
    exact h.same i (by omega)
  · have e := h.eq
    rw [List.take_length] at e
    have := sm_step _ _ _ _ _ _ _ _ 0 0 ca ca bo 0 _ e hv hs (by omega)
    rw [Nat.pow_succ]
    simpa using this

set_option maxHeartbeats 4000000 in
set_option maxRecDepth 100000 in
theorem smul_calls (g j n cp d : Nat) (U l : List Nat) (v : Value) (w : World) (hR : Row w g U) (hU : Dig U) (hn : l.length = n) (hj : j + n < U.length) (hn2 : n ≤ 1000000) (hd : d < 4294967296) (hl : Dig l)
    (hv : ∀ w', Below g w w' → Nv w' v l) :
    Calls Try.prog 76 #[.slice (some ⟨g, j, none⟩) (n + 1) cp, v, .int .u32 d] w fun e w' =>
      ∃ (Z : List Nat) (bo : Nat), e = .returned (.bool ((bo : Int) != 0)) ∧ SmEnd U Z (val l) d j n bo ∧ Row w' g Z ∧ Below g w w' ∧ Only g w w' := by
  subst hn
  obtain ⟨A1, c1, rfl, a1, b1, hn1⟩ := (hv w (Below.refl _ _)).open_
  have HV := Lib.hid hv
  have HI0 := Lib.hid (SmInv.start U l d j hU)
  have HR0 := Lib.hid hR
  have HB0 := Lib.hid (Below.refl g w)
  have HO0 := Lib.hid (Only.refl g w)
  have HD := Lib.hid hd
  have HDL := Lib.hid hl
  clear hv hn1 b1 a1 hd hU hR hl
  obtain ⟨n1, hn1⟩ : ∃ n1, l.length + 1 = n1 := ⟨_, rfl⟩
  rw [hn1]
  go_enter Try.func76, Try.ntmps76
  go_wp2_with fail
  go_loopw [7, 8, 17] (fun x y i wr => ∃ (ca bo k : Nat) (Z : List Nat), x = .int .u32 ca ∧ y = .int .u32 bo ∧ i = .int .i64 k ∧ k ≤ l.length ∧ Hid (SmInv U Z l d j k ca bo) ∧ Hid (Row wr g Z) ∧ Hid (Below g w wr) ∧ Hid (Only g w wr)) (fun x y i wr => l.length - (intOf i).toNat)
  case atStart => exact ⟨0, 0, 0, U, rfl, rfl, rfl, Nat.zero_le _, HI0, HR0, HB0, HO0⟩
  case round =>
    clear HI0 HR0 HB0 HO0
    obtain ⟨ca, bo, k, Z, rfl, rfl, rfl, hk, HI, HR, HB, HO⟩ := hrel
    by_cases hlt : k < l.length
    · obtain ⟨b, o, rfl, t1, hc⟩ := (HV.out _ HB.out).at_ (by omega)
      have hx := hc k (by omega)
      have hzl : j + k < Z.length := by have := HI.out.len; omega
      have hfz := HR.out.frozen (j + k)
      have hcl := HR.out.cell (j + k) hzl
      have hkn : k < n1 := by omega
      have HM := Lib.hid (mul32_calls (l.getD k 0) d (HDL.out.getD k) HD.out wr)
      have HA := Lib.hid (add32_calls (l.getD k 0 * d % 4294967296) ca 0 (Nat.mod_lt _ (by decide)) HI.out.car (by omega) wr)
      rw [Nat.add_zero] at HA
      have hmc := (sm_carry (l.getD k 0) d ca (HDL.out.getD k) HD.out HI.out.car).2
      have HST := Lib.hid (HI.out.step hlt HDL.out HD.out (by omega) _ _ _ _ rfl rfl rfl rfl)
      have HS := Lib.hid (sub32_calls (Z.getD (j + k) 0) ((l.getD k 0 * d % 4294967296 + ca) % 4294967296) bo (HI.out.dig.getD _) (Nat.mod_lt _ (by decide)) HI.out.brw wr)
      clear hc t1
      generalize Z.getD (j + k) 0 = x at *
      generalize l.getD k 0 = y at *
      generalize y * d % 4294967296 = lo at *
      generalize y * d / 4294967296 = hi at *
      generalize (lo + ca) % 4294967296 = lo2 at *
      generalize (lo + ca) / 4294967296 = ov at *
      obtain ⟨ca2, hca2⟩ : ∃ ca2, hi + ov = ca2 := ⟨_, rfl⟩
      have e1 : ((hi : Int) + (ov : Int)) % 4294967296 = (ca2 : Int) := by omega
      rw [hca2] at HST
      clear hca2 hmc
      generalize bor x lo2 bo = bo2 at *
      have HRW := Lib.hid (HR.out.store (j + k) ((x + 4294967296 - lo2 - bo) % 4294967296) hzl)
      generalize (x + 4294967296 - lo2 - bo) % 4294967296 = s at *
      go_wp2_with fail
      refine (HM.out).mono ?_
      rintro e w1 ⟨rfl, rfl⟩
      go_wp2_with fail
      refine (HA.out).mono ?_
      rintro e w1 ⟨rfl, rfl⟩
      go_wp2_with fail
      refine (HS.out).mono ?_
      rintro e w1 ⟨rfl, rfl⟩
      go_wp2_with fail
      go_roundw
      case rel => exact ⟨ca2, bo2, k + 1, _, rfl, rfl, rfl, by omega, HST, HRW, Lib.hid (HB.out.setCell (p := ⟨g, j + k, none⟩) (Nat.le_refl _) _), Lib.hid (HO.out.setCell _ _)⟩
      case measure => simp [intOf]; omega
    · obtain rfl : k = l.length := by omega
      have hzl : j + l.length < Z.length := by have := HI.out.len; omega
      have hfz := HR.out.frozen (j + l.length)
      have hcl := HR.out.cell (j + l.length) hzl
      have hkn : l.length < n1 := by omega
      have HS := Lib.hid (sub32_calls (Z.getD (j + l.length) 0) ca bo (HI.out.dig.getD _) HI.out.car HI.out.brw wr)
      have HST := Lib.hid (HI.out.last hj _ rfl)
      generalize Z.getD (j + l.length) 0 = x at *
      generalize bor x ca bo = bo2 at *
      have HRW := Lib.hid (HR.out.store (j + l.length) ((x + 4294967296 - ca - bo) % 4294967296) hzl)
      generalize (x + 4294967296 - ca - bo) % 4294967296 = s at *
      go_wp2_with fail
      refine (HS.out).mono ?_
      rintro e w1 ⟨rfl, rfl⟩
      go_wp2_with fail
      go_ret
      exact ⟨_, bo2, rfl, HST.out, HRW.out, HB.out.setCell (p := ⟨g, j + l.length, none⟩) (Nat.le_refl _) _, HO.out.setCell _ _⟩

end Go.Proofs.Ytgmooidagkbheaa
