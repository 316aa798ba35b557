/-
  natural.Sub: the difference.
-/
import Derived.Test.YtgmooidagkbheaaAdd
namespace Go.Proofs.Ytgmooidagkbheaa
open Go.RowKit Go.Proofs.YtgmooidagkbheaaW.PrintWords
set_option linter.unusedVariables false

set_option maxHeartbeats 1000000 in
set_option maxRecDepth 100000 in
theorem subc_calls (x y c B : Nat) (hx : x < 4294967296) (hy : y < 4294967296) (hc : c ≤ 1) (w : World) (hb : Box w B c) :
    Calls Try.prog 86 #[.int .u32 x, .int .u32 y, .pointer (some ⟨B, 0, none⟩)] w fun e w' =>
      e = .returned (.int .u32 (((x + 4294967296 - y - c) % 4294967296 : Nat) : Int)) ∧ w.setCell ⟨B, 0, none⟩ (.int .u32 ((bor x y c : Nat) : Int)) = w' := by
  have HC := Lib.hid (sub32_calls x y c hx hy hc w)
  have h1 := hb.cell
  have h2 := hb.frozen
  clear hb
  generalize (x + 4294967296 - y - c) % 4294967296 = s at *
  generalize bor x y c = d at *
  go_enter Try.func86, Try.ntmps86
  go_wp2_with fail
  refine (HC.out).mono ?_
  rintro e w1 ⟨rfl, rfl⟩
  go_wp2_with fail
  go_ret
  exact ⟨rfl, rfl⟩

theorem sub_digit (x y c : Nat) (hx : x < 4294967296) (hy : y < 4294967296) (hc : c ≤ 1) : (x + 4294967296 - y - c) % 4294967296 + y + c = x + 4294967296 * bor x y c := by
  unfold bor
  split <;> omega
theorem sub_step (P x y c : Nat) (va vb vz d e : Nat) (h : vz + vb = va + P * c) (hd : d + y + c = x + 4294967296 * e) :
    vz + P * d + (vb + P * y) = va + P * x + (P * 4294967296) * e := by
  have : P * (d + y + c) = P * (x + 4294967296 * e) := by rw [hd]
  rw [Nat.mul_add, Nat.mul_add, Nat.mul_add, ← Nat.mul_assoc] at this
  omega

/-- What a difference loop keeps: Z are the digits so far, c the borrow. -/
structure SubInv (l m Z : List Nat) (c k : Nat) : Prop where mk ::
  len : Z.length = l.length
  dig : Dig Z
  car : c ≤ 1
  eq : val (Z.take k) + val (m.take k) = val (l.take k) + 4294967296 ^ k * c
theorem SubInv.start (l m : List Nat) : SubInv l m (List.replicate l.length 0) 0 0 :=
  ⟨by simp, Dig.replicate _, by omega, by simp [val]⟩
theorem SubInv.step {l m Z : List Nat} {c k : Nat} (h : SubInv l m Z c k) (hk : k < l.length) (hl : Dig l) (hm : Dig m) :
    SubInv l m (Z.set k ((l.getD k 0 + 4294967296 - m.getD k 0 - c) % 4294967296)) (bor (l.getD k 0) (m.getD k 0) c) (k + 1) := by
  have h1 := hl.getD k
  have h2 := hm.getD k
  have h3 := h.car
  refine ⟨by rw [List.length_set]; exact h.len, h.dig.set _ _ (by omega), bor_le _ _ _, ?_⟩
  rw [val_take_set (by rw [h.len]; omega), Nat.pow_succ, take_getD_succ l k, take_getD_succ m k]
  exact sub_step _ _ _ _ _ _ _ _ _ h.eq (sub_digit _ _ _ h1 h2 h3)
theorem SubInv.last {l m Z : List Nat} {c : Nat} (h : SubInv l m Z c l.length) (hm : m.length ≤ l.length) (hle : val m ≤ val l) : Dig Z ∧ val Z = val l - val m := by
  have h3 := h.car
  refine ⟨h.dig, ?_⟩
  have e := h.eq
  have hz := val_lt h.dig
  rw [h.len] at hz
  rw [List.take_of_length_le (by rw [h.len]; exact Nat.le_refl _), List.take_length, List.take_of_length_le hm] at e
  have : c = 0 ∨ c = 1 := by omega
  rcases this with rfl | rfl
  · omega
  · rw [Nat.mul_one] at e
    omega

set_option maxHeartbeats 1000000 in
set_option maxRecDepth 100000 in
theorem nsub_less (v1 v2 : Value) (l1 l2 : List Nat) (w : World) (h1 : Nv w v1 l1) (h2 : Nv w v2 l2) (hlt : val l1 < val l2) :
    Calls Try.prog 58 #[v1, v2] w fun e w' => e = .returned (.tuple #[.slice none 0 0, .bool false]) ∧ Below w.heap.size w w' := by
  have HT1 := Lib.hid (trim_num v1 l1 w h1)
  have HT2 := Lib.hid (trim_num v2 l2 w h2)
  have HC := Lib.hid (fun u1 u2 (a : Nv w u1 (dg (val l1))) (b : Nv w u2 (dg (val l2))) => ncmp_calls u1 u2 _ _ w a b)
  rw [val_dg, val_dg, cmpN_lt hlt] at HC
  clear h1 h2 hlt
  go_enter Try.func58, Try.ntmps58
  go_wp2_with fail
  refine (HT1.out).mono ?_
  rintro e w1 ⟨u1, rfl, hv1, rfl⟩
  go_wp2_with fail
  refine (HT2.out).mono ?_
  rintro e w1 ⟨u2, rfl, hv2, rfl⟩
  have HC2 := Lib.hid (HC.out _ _ hv1 hv2)
  clear hv1 hv2 HC
  go_wp2_with fail
  refine (HC2.out).mono ?_
  rintro e w1 ⟨rfl, hb⟩
  have HB := Lib.hid hb
  clear hb
  go_wp2_with fail
  go_ret2
  exact ⟨rfl, HB.out⟩

set_option maxHeartbeats 4000000 in
set_option maxRecDepth 100000 in
theorem nsub_calls (v1 v2 : Value) (l1 l2 : List Nat) (w : World) (h1 : Nv w v1 l1) (h2 : Nv w v2 l2) (g1 : l1.length ≤ 1000000) (hle : val l2 ≤ val l1) :
    Calls Try.prog 58 #[v1, v2] w fun e w' => (∃ v', e = .returned (.tuple #[v', .bool true]) ∧ Nv w' v' (dg (val l1 - val l2))) ∧ Below w.heap.size w w' := by
  have HT1 := Lib.hid (trim_num v1 l1 w h1)
  have HT2 := Lib.hid (trim_num v2 l2 w h2)
  have HC := Lib.hid (fun u1 u2 (a : Nv w u1 (dg (val l1))) (b : Nv w u2 (dg (val l2))) => ncmp_calls u1 u2 _ _ w a b)
  rw [val_dg, val_dg] at HC
  have hc0 : 0 ≤ cmpN (val l1) (val l2) := by
    unfold cmpN
    rw [if_neg (by omega)]
    split <;> omega
  have hlen : (dg (val l2)).length ≤ (dg (val l1)).length := by
    refine Decidable.byContradiction fun h => ?_
    have := cmp_len (a := val l1) (b := val l2) (by omega)
    omega
  have hl1 := dg_len_le h1.digits
  have HD1 := Lib.hid (dig_dg (val l1))
  have HD2 := Lib.hid (dig_dg (val l2))
  have HV1 := Lib.hid (val_dg (val l1))
  have HV2 := Lib.hid (val_dg (val l2))
  have HLE := Lib.hid hle
  clear h1 h2 hle
  generalize val l1 = n1 at *
  generalize val l2 = n2 at *
  generalize cmpN n1 n2 = q at *
  generalize dg n1 = l at *
  generalize dg n2 = m at *
  have q1 : l.length ≤ 1000000 := by omega
  clear g1 hl1
  go_enter Try.func58, Try.ntmps58
  go_wp2_with fail
  refine (HT1.out).mono ?_
  rintro e w1 ⟨u1, rfl, hv1, rfl⟩
  go_wp2_with fail
  refine (HT2.out).mono ?_
  rintro e w1 ⟨u2, rfl, hv2, rfl⟩
  have HC2 := Lib.hid (HC.out _ _ hv1 hv2)
  obtain ⟨A1, c1, rfl, a1, b1, hn1⟩ := hv1.open_
  obtain ⟨A2, c2, rfl, a2, b2, hn2⟩ := hv2.open_
  have HN1 := Lib.hid hn1
  have HN2 := Lib.hid hn2
  clear hv1 hv2 HC hn1 hn2 b1 b2 HT1 HT2 a1 a2
  go_wp2_with fail
  refine (HC2.out).mono ?_
  rintro e w1 ⟨rfl, hb⟩
  have HB0 := Lib.hid hb
  have HM1 := Lib.hid (HN1.out.below hb)
  have HM2 := Lib.hid (HN2.out.below hb)
  have hws : w.heap.size ≤ w1.heap.size := hb.size
  clear hb HN1 HN2 HC2
  have hmk := run_make_digits l.length (by unfold LIM; omega)
  have hba : Below w1.heap.size w1 (w1.alloc (.cells #[.int .u32 0] 85)) := (Below.refl _ _).alloc (Nat.le_refl _) _
  have HBA := Lib.hid (hba.alloc (by simp) (.cells (dgs (List.replicate l.length 0)).toArray 85))
  have HBX := Lib.hid ((Box.made w1 0).keep ((Below.refl _ _).alloc (Nat.le_refl _) (.cells (dgs (List.replicate l.length 0)).toArray 85)))
  have HRW := Lib.hid (Row.made (w1.alloc (.cells #[.int .u32 0] 85)) (List.replicate l.length 0))
  rw [show (w1.alloc (.cells #[.int .u32 0] 85)).heap.size = w1.heap.size + 1 from by simp] at HRW
  have HIN := Lib.hid (SubInv.start l m)
  clear hba
  go_wp2_with fail
  go_loopw [26] (fun i wr => ∃ (k : Nat) (Z : List Nat) (c : Nat), i = .int .i64 k ∧ k ≤ m.length ∧ Hid (SubInv l m Z c k) ∧ Hid (Row wr (w1.heap.size + 1) Z) ∧ Hid (Box wr w1.heap.size c) ∧ Hid (Below w1.heap.size w1 wr)) (fun i _ => m.length - (intOf i).toNat)
  case atStart => exact ⟨0, _, 0, rfl, Nat.zero_le _, HIN, HRW, HBX, HBA⟩
  case round =>
    obtain ⟨k, Z, c, rfl, hk, HI, HR, HX2, HB⟩ := hrel
    clear HIN HRW HBX HBA hmk
    by_cases hlt2 : k < m.length
    · obtain ⟨b, o, rfl, t1, hc⟩ := (HM1.out.below HB.out).at_ (by omega)
      obtain ⟨b', o', rfl, t2, hc'⟩ := (HM2.out.below HB.out).at_ (by omega)
      have hx := hc k (by omega)
      have hy := hc' k (by omega)
      have HST := Lib.hid (HI.out.step (by omega) HD1.out HD2.out)
      have HC := Lib.hid (subc_calls (l.getD k 0) (m.getD k 0) c w1.heap.size (HD1.out.getD k) (HD2.out.getD k) HI.out.car wr HX2.out)
      have hzl : k < Z.length := by have := HI.out.len; omega
      clear hc hc' t1 t2
      generalize l.getD k 0 = x at *
      generalize m.getD k 0 = y at *
      go_wp2_with fail
      refine (HC.out).mono ?_
      rintro e w2 ⟨rfl, rfl⟩
      have hR2 := HR.out.other ⟨w1.heap.size, 0, none⟩ (.int .u32 ((bor x y c : Nat) : Int)) (by simp)
      have HX3 := Lib.hid (HX2.out.set (bor x y c))
      have HB2 := Lib.hid (HB.out.setCell (p := ⟨w1.heap.size, 0, none⟩) (by simp) (.int .u32 ((bor x y c : Nat) : Int)))
      have hfz := hR2.frozen k
      have hcl := hR2.cell k hzl
      have HR2 := Lib.hid hR2
      clear hR2
      generalize bor x y c = d at *
      generalize hs : (x + 4294967296 - y - c) % 4294967296 = s at *
      clear hs HX2 HR HB hx hy HC
      generalize wr.setCell ⟨w1.heap.size, 0, none⟩ (.int .u32 (d : Int)) = W at *
      go_wp2_with fail
      go_roundw
      case rel => exact ⟨k + 1, Z.set k s, d, by go_num, by omega, HST, Lib.hid (HR2.out.store k s hzl), Lib.hid (HX3.out.other _ _ (by simp)), Lib.hid (HB2.out.setCell (p := ⟨w1.heap.size + 1, k, none⟩) (by simp) _)⟩
      case measure => simp [intOf]; omega
    · obtain rfl : k = m.length := by omega
      go_wp2_with fail
      go_loopw [11] (fun i wr => ∃ (k : Nat) (Z : List Nat) (c : Nat), i = .int .i64 k ∧ m.length ≤ k ∧ k ≤ l.length ∧ Hid (SubInv l m Z c k) ∧ Hid (Row wr (w1.heap.size + 1) Z) ∧ Hid (Box wr w1.heap.size c) ∧ Hid (Below w1.heap.size w1 wr)) (fun i _ => l.length - (intOf i).toNat)
      case atStart => exact ⟨m.length, Z, c, rfl, Nat.le_refl _, by omega, HI, HR, HX2, HB⟩
      case round =>
        clear HI HR HX2 HB
        obtain ⟨k, Z, c, rfl, hk0, hk, HI, HR, HX2, HB⟩ := hrel
        by_cases hlt3 : k < l.length
        · obtain ⟨b, o, rfl, t1, hc⟩ := (HM1.out.below HB.out).at_ (by omega)
          have hx := hc k (by omega)
          have HST := Lib.hid (HI.out.step (by omega) HD1.out HD2.out)
          rw [show m.getD k 0 = 0 from by rw [List.getD_eq_getElem?_getD, List.getElem?_eq_none (by omega)]; rfl] at HST
          have HC := Lib.hid (subc_calls (l.getD k 0) 0 c w1.heap.size (HD1.out.getD k) (by omega) HI.out.car wr HX2.out)
          have hzl : k < Z.length := by have := HI.out.len; omega
          clear hc t1
          generalize l.getD k 0 = x at *
          go_wp2_with fail
          refine (HC.out).mono ?_
          rintro e w2 ⟨rfl, rfl⟩
          have hR2 := HR.out.other ⟨w1.heap.size, 0, none⟩ (.int .u32 ((bor x 0 c : Nat) : Int)) (by simp)
          have HX3 := Lib.hid (HX2.out.set (bor x 0 c))
          have HB2 := Lib.hid (HB.out.setCell (p := ⟨w1.heap.size, 0, none⟩) (by simp) (.int .u32 ((bor x 0 c : Nat) : Int)))
          have hfz := hR2.frozen k
          have hcl := hR2.cell k hzl
          have HR2 := Lib.hid hR2
          clear hR2
          generalize bor x 0 c = d at *
          generalize hs : (x + 4294967296 - 0 - c) % 4294967296 = s at *
          clear hs HX2 HR HB hx HC
          generalize wr.setCell ⟨w1.heap.size, 0, none⟩ (.int .u32 (d : Int)) = W at *
          go_wp2_with fail
          go_roundw
          case rel => exact ⟨k + 1, Z.set k s, d, by go_num, by omega, by omega, HST, Lib.hid (HR2.out.store k s hzl), Lib.hid (HX3.out.other _ _ (by simp)), Lib.hid (HB2.out.setCell (p := ⟨w1.heap.size + 1, k, none⟩) (by simp) _)⟩
          case measure => simp [intOf]; omega
        · obtain rfl : k = l.length := by omega
          have HLA := Lib.hid (HI.out.last (by omega) (by rw [HV1.out, HV2.out]; exact HLE.out))
          have HZL := Lib.hid HI.out.len
          go_wp2_with fail
          have hnv := HR.out.nv0 l.length (by rw [HZL.out]; exact Nat.le_refl _) (by unfold LIM; omega) HLA.out.1
          have htr := trim_num _ _ _ hnv
          rw [HLA.out.2, HZL.out, HV1.out, HV2.out] at htr
          have HTR := Lib.hid htr
          clear htr hnv
          refine (HTR.out).mono ?_
          rintro e w9 ⟨v9, rfl, hv9, rfl⟩
          have HV9 := Lib.hid hv9
          clear hv9
          go_wp2_with fail
          go_ret2
          exact ⟨⟨_, rfl, HV9.out⟩, HB0.out.trans (HB.out.mono hws)⟩

end Go.Proofs.Ytgmooidagkbheaa
