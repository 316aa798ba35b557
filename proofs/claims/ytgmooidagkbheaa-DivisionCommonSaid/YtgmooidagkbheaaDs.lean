/-
  natural.DivSmall: the quotient and the remainder of a division by one digit.
-/
import Derived.Test.YtgmooidagkbheaaMul
namespace Go.Proofs.Ytgmooidagkbheaa
open Go.RowKit Go.Proofs.YtgmooidagkbheaaW.PrintWords
set_option linter.unusedVariables false

/-- What the loop of DivSmall keeps: the digits from k on are divided. -/
structure DsInv (l Z : List Nat) (d r k : Nat) : Prop where mk ::
  len : Z.length = l.length
  dig : Dig Z
  rest : r < d
  eq : val (l.drop k) = val (Z.drop k) * d + r
theorem DsInv.start (l : List Nat) (d : Nat) (hd : 0 < d) : DsInv l (List.replicate l.length 0) d 0 l.length :=
  ⟨by simp, Dig.replicate _, hd, by simp [val]⟩
theorem ds_quot {r x d : Nat} (hr : r < d) (hx : x < 4294967296) : (r * 4294967296 + x) / d < 4294967296 := by
  rw [Nat.div_lt_iff_lt_mul (by omega)]
  have : (r + 1) * 4294967296 ≤ d * 4294967296 := Nat.mul_le_mul_right _ hr
  rw [Nat.mul_comm 4294967296 d]
  omega
theorem drop_set_self {Z : List Nat} {k q : Nat} (h : k < Z.length) : (Z.set k q).drop k = q :: Z.drop (k + 1) := by
  rw [drop_getD _ _ (by simpa using h), List.drop_set_of_lt (by omega)]
  congr 1
  rw [List.getD_eq_getElem?_getD, List.getElem?_set_self h]
  rfl
theorem DsInv.step {l Z : List Nat} {d r k : Nat} (h : DsInv l Z d r (k + 1)) (hk : k < l.length) (hl : Dig l) :
    DsInv l (Z.set k ((r * 4294967296 + l.getD k 0) / d)) d ((r * 4294967296 + l.getD k 0) % d) k := by
  have hx := hl.getD k
  refine ⟨by rw [List.length_set]; exact h.len, h.dig.set _ _ (ds_quot h.rest hx), Nat.mod_lt _ (by have := h.rest; omega), ?_⟩
  rw [drop_set_self (by rw [h.len]; exact hk), drop_getD _ _ hk]
  have e1 : ∀ (x : Nat) (m : List Nat), val (x :: m) = x + 4294967296 * val m := fun _ _ => rfl
  rw [e1, e1, h.eq]
  have e2 := Nat.div_add_mod (r * 4294967296 + l.getD k 0) d
  generalize l.getD k 0 = x at *
  generalize (r * 4294967296 + x) / d = q at *
  generalize (r * 4294967296 + x) % d = s at *
  generalize val (Z.drop (k + 1)) = V at *
  have e3 : (q + 4294967296 * V) * d = d * q + 4294967296 * (V * d) := by rw [Nat.add_mul, Nat.mul_assoc, Nat.mul_comm q d]
  rw [e3]
  omega
theorem DsInv.last {l Z : List Nat} {d r : Nat} (h : DsInv l Z d r 0) : val Z = val l / d ∧ r = val l % d := by
  have e := h.eq
  have hr := h.rest
  rw [List.drop_zero, List.drop_zero] at e
  rw [e]
  constructor
  · rw [Nat.mul_comm, Nat.mul_add_div (by omega), Nat.div_eq_of_lt hr, Nat.add_zero]
  · rw [Nat.mul_comm, Nat.mul_add_mod, Nat.mod_eq_of_lt hr]

set_option maxHeartbeats 4000000 in
set_option maxRecDepth 100000 in
theorem divsmall_calls (v : Value) (l0 : List Nat) (d : Nat) (w : World) (h : Nv w v l0) (g1 : l0.length ≤ 1000000) (hd : 0 < d) (hd2 : d < 4294967296) :
    Calls Try.prog 72 #[v, .int .u32 d] w fun e w' => (∃ v', e = .returned (.tuple #[v', .int .u32 ((val l0 % d : Nat) : Int), .bool true]) ∧ Nv w' v' (dg (val l0 / d))) ∧ Below w.heap.size w w' := by
  have HT1 := Lib.hid (trim_num v l0 w h)
  have hl1 := dg_len_le h.digits
  have HD1 := Lib.hid (dig_dg (val l0))
  have HV1 := Lib.hid (val_dg (val l0))
  clear h
  generalize val l0 = n1 at *
  generalize dg n1 = l at *
  have q1 : l.length ≤ 1000000 := by omega
  have c0 : ((d : Int) == 0) = false := by simp; omega
  have HDP := Lib.hid hd
  have HD2 := Lib.hid hd2
  clear g1 hl1 hd hd2
  go_enter Try.func72, Try.ntmps72
  go_wp2_with fail
  refine (HT1.out).mono ?_
  rintro e w1 ⟨u1, rfl, hv1, rfl⟩
  obtain ⟨A1, c1, rfl, a1, b1, hn1⟩ := hv1.open_
  have HN1 := Lib.hid hn1
  clear hv1 hn1 b1 HT1 a1
  have hmk := run_make_digits l.length (by unfold LIM; omega)
  have HBA := Lib.hid ((Below.refl w.heap.size w).alloc (Nat.le_refl _) (.cells (dgs (List.replicate l.length 0)).toArray 85))
  have HRW := Lib.hid (Row.made w (List.replicate l.length 0))
  have HIN := Lib.hid (DsInv.start l d HDP.out)
  go_wp2_with fail
  go_loopw [8, 9] (fun y i wr => ∃ (k : Nat) (Z : List Nat) (r : Nat), y = .int .u32 r ∧ i = .int .i64 ((k : Int) - 1) ∧ k ≤ l.length ∧ Hid (DsInv l Z d r k) ∧ Hid (Row wr w.heap.size Z) ∧ Hid (Below w.heap.size w wr)) (fun y i wr => (intOf i + 1).toNat)
  case atStart => exact ⟨l.length, _, 0, rfl, rfl, Nat.le_refl _, HIN, HRW, HBA⟩
  case round =>
    obtain ⟨k0, Z, r, rfl, rfl, hk, HI, HR, HB⟩ := hrel
    clear HIN HRW HBA hmk
    rcases k0 with _ | k
    · have HL := Lib.hid HI.out.last
      have HLN := Lib.hid HI.out.len
      have HZD := Lib.hid HI.out.dig
      simp only [Int.natCast_zero, Int.zero_sub] at *
      go_wp2_with fail
      have hnv := HR.out.nv0 l.length (by rw [HLN.out]; exact Nat.le_refl _) (by unfold LIM; omega) HZD.out
      rw [HLN.out] at hnv
      have htr := trim_num _ _ _ hnv
      rw [HL.out.1, HV1.out] at htr
      have HTR := Lib.hid htr
      clear htr hnv
      refine (HTR.out).mono ?_
      rintro e w9 ⟨v9, rfl, hv9, rfl⟩
      have HV9 := Lib.hid hv9
      clear hv9
      go_wp2_with fail
      go_ret3
      exact ⟨⟨v9, by rw [HL.out.2, HV1.out]; rfl, HV9.out⟩, HB.out⟩
    · rw [show (((k + 1 : Nat) : Int) - 1) = (k : Int) from by omega]
      obtain ⟨b, o, rfl, t1, hc⟩ := (HN1.out.below HB.out).at_ (by omega)
      have hx := hc k (by omega)
      have HST := Lib.hid (HI.out.step (by omega) HD1.out)
      have HDV := Lib.hid (div32_calls r (l.getD k 0) d (HD1.out.getD k) HD2.out HI.out.rest wr)
      have hzl : k < Z.length := by have := HI.out.len; omega
      have hfz := HR.out.frozen k
      have hcl := HR.out.cell k hzl
      clear hc t1
      generalize l.getD k 0 = x at *
      go_wp2_with fail
      refine (HDV.out).mono ?_
      rintro e w2 ⟨rfl, hb2⟩
      have hR2 := HR.out.keep hb2
      have HB2 := Lib.hid (HB.out.trans (hb2.mono HB.out.size))
      clear hfz hcl hx hb2
      have hfz := hR2.frozen k
      have hcl := hR2.cell k hzl
      have HR2 := Lib.hid hR2
      clear hR2 HR HB HDV
      generalize (r * 4294967296 + x) / d = q at *
      generalize (r * 4294967296 + x) % d = s at *
      go_wp2_with fail
      go_roundw
      case rel => exact ⟨k, Z.set k q, s, rfl, rfl, by omega, HST, Lib.hid (HR2.out.store k q hzl), Lib.hid (HB2.out.setCell (p := ⟨w.heap.size, k, none⟩) (Nat.le_refl _) _)⟩
      case measure => simp [intOf]

end Go.Proofs.Ytgmooidagkbheaa
