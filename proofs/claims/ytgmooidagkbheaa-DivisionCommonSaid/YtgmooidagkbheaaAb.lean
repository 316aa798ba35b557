/-
  division.addBack: the number is added back to a part of a row.
-/
import Derived.Test.YtgmooidagkbheaaSm
namespace Go.Proofs.Ytgmooidagkbheaa
open Go.RowKit Go.Proofs.YtgmooidagkbheaaW.PrintWords
set_option linter.unusedVariables false

/-- What the loop of addBack keeps. -/
structure AbInv (U Z l : List Nat) (j k ca : Nat) : Prop where mk ::
  len : Z.length = U.length
  dig : Dig Z
  car : ca ≤ 1
  same : ∀ i, i < j ∨ j + k ≤ i → Z.getD i 0 = U.getD i 0
  eq : val Z + 4294967296 ^ (j + k) * ca = val U + 4294967296 ^ j * val (l.take k)

theorem AbInv.start (U l : List Nat) (j : Nat) (hU : Dig U) : AbInv U U l j 0 0 :=
  ⟨rfl, hU, by decide, fun _ _ => rfl, by simp [val]⟩

theorem ab_step (P B vZ vZ' vU x s T y ca ca' : Nat) (h1 : vZ + P * ca = vU + T) (h2 : vZ' + P * x = vZ + P * s) (h3 : s + B * ca' = x + y + ca) :
    vZ' + P * B * ca' = vU + (T + P * y) := by
  have e : P * (s + B * ca') = P * (x + y + ca) := by rw [h3]
  rw [Nat.mul_add, Nat.mul_add, Nat.mul_add, ← Nat.mul_assoc] at e
  omega

theorem AbInv.step {U Z l : List Nat} {j k ca : Nat} (h : AbInv U Z l j k ca) (hk : k < l.length) (hl : Dig l) (hj : j + k < U.length) (y x s ca' : Nat)
    (ey : l.getD k 0 = y) (ex : Z.getD (j + k) 0 = x) (es : (x + y + ca) % 4294967296 = s) (ec : (x + y + ca) / 4294967296 = ca') :
    AbInv U (Z.set (j + k) s) l j (k + 1) ca' := by
  have hy := hl.getD k
  rw [ey] at hy
  have hx := h.dig.getD (j + k)
  rw [ex] at hx
  have hc := h.car
  have hs : s + 4294967296 * ca' = x + y + ca := by omega
  have hv := val_set Z (j + k) s (by rw [h.len]; exact hj)
  rw [ex] at hv
  refine ⟨by rw [List.length_set]; exact h.len, h.dig.set _ _ (by omega), by omega, fun i hi => ?_, ?_⟩
  · rw [getD_set_ne (by omega)]
    exact h.same i (by omega)
  · have e1 : 4294967296 ^ j * val (l.take (k + 1)) = 4294967296 ^ j * val (l.take k) + 4294967296 ^ (j + k) * y := by
      rw [take_getD_succ l k, ey, Nat.mul_add, Nat.pow_add, Nat.mul_assoc]
    rw [e1, ← Nat.add_assoc j k 1, Nat.pow_succ]
    exact ab_step _ _ _ _ _ _ _ _ _ _ _ h.eq hv hs

/-- What addBack has done. -/
structure AbEnd (U Z : List Nat) (V j n ov : Nat) : Prop where mk ::
  len : Z.length = U.length
  dig : Dig Z
  ovr : ov ≤ 1
  same : ∀ i, i < j ∨ j + n + 1 ≤ i → Z.getD i 0 = U.getD i 0
  eq : val Z + 4294967296 ^ (j + n + 1) * ov = val U + 4294967296 ^ j * V

theorem AbInv.last {U Z l : List Nat} {j ca : Nat} (h : AbInv U Z l j l.length ca) (hj : j + l.length < U.length) (x : Nat) (ex : Z.getD (j + l.length) 0 = x) :
    AbEnd U (Z.set (j + l.length) ((x + ca) % 4294967296)) (val l) j l.length ((x + ca) / 4294967296) := by
  have hx := h.dig.getD (j + l.length)
  rw [ex] at hx
  have hc := h.car
  have hv := val_set Z (j + l.length) ((x + ca) % 4294967296) (by rw [h.len]; exact hj)
  rw [ex] at hv
  refine ⟨by rw [List.length_set]; exact h.len, h.dig.set _ _ (Nat.mod_lt _ (by decide)), by omega, fun i hi => ?_, ?_⟩
  · rw [getD_set_ne (by omega)]
    exact h.same i (by omega)
  · have e := h.eq
    rw [List.take_length] at e
    have := ab_step _ 4294967296 _ _ _ _ _ _ 0 ca ((x + ca) / 4294967296) e hv (by omega)
    rw [Nat.pow_succ]
    simpa using this

set_option maxHeartbeats 4000000 in
set_option maxRecDepth 100000 in
theorem addback_calls (g j n cp : Nat) (U l : List Nat) (v : Value) (w : World) (hR : Row w g U) (hU : Dig U) (hn : l.length = n) (hj : j + n < U.length) (hn2 : n ≤ 1000000) (hl : Dig l)
    (hv : ∀ w', Below g w w' → Nv w' v l) :
    Calls Try.prog 77 #[.slice (some ⟨g, j, none⟩) (n + 1) cp, v] w fun e w' =>
      ∃ (Z : List Nat) (ov : Nat), (∃ u, e = .returned u) ∧ AbEnd U Z (val l) j n ov ∧ Row w' g Z ∧ Below g w w' ∧ Only g w w' := by
  subst hn
  obtain ⟨A1, c1, rfl, a1, b1, hn1⟩ := (hv w (Below.refl _ _)).open_
  have HV := Lib.hid hv
  have HI0 := Lib.hid (AbInv.start U l j hU)
  have HR0 := Lib.hid hR
  have HB0 := Lib.hid (Below.refl g w)
  have HO0 := Lib.hid (Only.refl g w)
  have HDL := Lib.hid hl
  clear hv hn1 b1 a1 hU hR hl
  obtain ⟨n1, hn1⟩ : ∃ n1, l.length + 1 = n1 := ⟨_, rfl⟩
  rw [hn1]
  go_enter Try.func77, Try.ntmps77
  go_wp2_with fail
  go_loopw [4, 9] (fun x i wr => ∃ (ca k : Nat) (Z : List Nat), x = .int .u32 ca ∧ i = .int .i64 k ∧ k ≤ l.length ∧ Hid (AbInv U Z l j k ca) ∧ Hid (Row wr g Z) ∧ Hid (Below g w wr) ∧ Hid (Only g w wr)) (fun x i wr => l.length - (intOf i).toNat)
  case atStart => exact ⟨0, 0, U, rfl, rfl, Nat.zero_le _, HI0, HR0, HB0, HO0⟩
  case round =>
    clear HI0 HR0 HB0 HO0
    obtain ⟨ca, k, Z, rfl, rfl, hk, HI, HR, HB, HO⟩ := hrel
    by_cases hlt : k < l.length
    · obtain ⟨b, o, rfl, t1, hc⟩ := (HV.out _ HB.out).at_ (by omega)
      have hx := hc k (by omega)
      have hzl : j + k < Z.length := by have := HI.out.len; omega
      have hfz := HR.out.frozen (j + k)
      have hcl := HR.out.cell (j + k) hzl
      have hkn : k < n1 := by omega
      have HA := Lib.hid (add32_calls (Z.getD (j + k) 0) (l.getD k 0) ca (HI.out.dig.getD _) (HDL.out.getD k) HI.out.car wr)
      have HST := Lib.hid (HI.out.step hlt HDL.out (by omega) _ _ _ _ rfl rfl rfl rfl)
      clear hc t1
      generalize Z.getD (j + k) 0 = x at *
      generalize l.getD k 0 = y at *
      generalize (x + y + ca) / 4294967296 = ca2 at *
      have HRW := Lib.hid (HR.out.store (j + k) ((x + y + ca) % 4294967296) hzl)
      generalize (x + y + ca) % 4294967296 = s at *
      go_wp2_with fail
      refine (HA.out).mono ?_
      rintro e w1 ⟨rfl, rfl⟩
      go_wp2_with fail
      go_roundw
      case rel => exact ⟨ca2, k + 1, _, rfl, rfl, by omega, HST, HRW, Lib.hid (HB.out.setCell (p := ⟨g, j + k, none⟩) (Nat.le_refl _) _), Lib.hid (HO.out.setCell _ _)⟩
      case measure => simp [intOf]; omega
    · obtain rfl : k = l.length := by omega
      have hzl : j + l.length < Z.length := by have := HI.out.len; omega
      have hfz := HR.out.frozen (j + l.length)
      have hcl := HR.out.cell (j + l.length) hzl
      have hkn : l.length < n1 := by omega
      have HST := Lib.hid (HI.out.last hj _ rfl)
      have e1 : ((Z.getD (j + l.length) 0 : Nat) + (ca : Int)) % 4294967296 = (((Z.getD (j + l.length) 0 + ca) % 4294967296 : Nat) : Int) := by omega
      have HRW := Lib.hid (HR.out.store (j + l.length) ((Z.getD (j + l.length) 0 + ca) % 4294967296) hzl)
      generalize (Z.getD (j + l.length) 0 + ca) % 4294967296 = s at *
      generalize Z.getD (j + l.length) 0 = x at *
      go_wp2_with fail
      go_end0
      exact ⟨_, _, ⟨_, rfl⟩, HST.out, HRW.out, HB.out.setCell (p := ⟨g, j + l.length, none⟩) (Nat.le_refl _) _, HO.out.setCell _ _⟩

end Go.Proofs.Ytgmooidagkbheaa
