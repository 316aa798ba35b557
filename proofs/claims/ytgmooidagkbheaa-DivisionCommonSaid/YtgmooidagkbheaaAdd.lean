/-
  natural.Add: the sum.
-/
import Derived.Test.YtgmooidagkbheaaCmp
import Derived.Test.YtgmooidagkbheaaBits
import Derived.OneCell
namespace Go.Proofs.Ytgmooidagkbheaa
open Go.RowKit Go.Proofs.YtgmooidagkbheaaW.PrintWords
set_option linter.unusedVariables false

theorem dg_len_le {l : List Nat} (h : Dig l) : (dg (val l)).length ≤ l.length := by
  rw [← trimL_dg h]
  unfold trimL
  rw [List.length_take]
  omega

/-- A captured digit: a block of one cell. -/
structure Box (w : World) (B : Nat) (c : Nat) : Prop where mk ::
  out : w.heap[B]? = some (.cells #[.int .u32 (c : Int)] 85 (0, 0))
theorem Box.lt {w : World} {B c : Nat} (h : Box w B c) : B < w.heap.size := (Array.getElem?_eq_some_iff.1 h.out).1
theorem Box.cell {w : World} {B c : Nat} (h : Box w B c) : w.cell? ⟨B, 0, none⟩ = some (.int .u32 (c : Int)) := by
  simp [World.cell?, h.out]
theorem Box.frozen {w : World} {B c : Nat} (h : Box w B c) : w.frozen? ⟨B, 0, none⟩ = false := by
  simp [World.frozen?, h.out]
theorem Box.set {w : World} {B c : Nat} (h : Box w B c) (d : Nat) : Box (w.setCell ⟨B, 0, none⟩ (.int .u32 (d : Int))) B d := ⟨one_setCell h.out⟩
theorem Box.other {w : World} {B c : Nat} (h : Box w B c) (a : Addr) (v : Value) (hne : B ≠ a.block) : Box (w.setCell a v) B c := ⟨(Below.heap_setCell w a v B hne).trans h.out⟩
theorem Box.keep {w w' : World} {B c : Nat} (h : Box w B c) (hb : Below w.heap.size w w') : Box w' B c := ⟨(hb.block B h.lt).trans h.out⟩
theorem Box.drewN {w : World} {B c : Nat} (h : Box w B c) (n : Nat) : Box (w.drewN n) B c := ⟨h.out⟩
theorem Box.made (w : World) (c : Nat) : Box (w.alloc (.cells #[.int .u32 (c : Int)] 85)) w.heap.size c := by
  refine ⟨?_⟩
  show (w.heap.push _)[w.heap.size]? = _
  simp

set_option maxHeartbeats 1000000 in
set_option maxRecDepth 100000 in
theorem addc_calls (x y c B : Nat) (hx : x < 4294967296) (hy : y < 4294967296) (hc : c ≤ 1) (w : World) (hb : Box w B c) :
    Calls Try.prog 84 #[.int .u32 x, .int .u32 y, .pointer (some ⟨B, 0, none⟩)] w fun e w' =>
      e = .returned (.int .u32 (((x + y + c) % 4294967296 : Nat) : Int)) ∧ w.setCell ⟨B, 0, none⟩ (.int .u32 (((x + y + c) / 4294967296 : Nat) : Int)) = w' := by
  have HC := Lib.hid (add32_calls x y c hx hy hc w)
  have h1 := hb.cell
  have h2 := hb.frozen
  clear hb
  generalize (x + y + c) % 4294967296 = s at *
  generalize (x + y + c) / 4294967296 = d at *
  go_enter Try.func84, Try.ntmps84
  go_wp2_with fail
  refine (HC.out).mono ?_
  rintro e w1 ⟨rfl, rfl⟩
  go_wp2_with fail
  go_ret
  exact ⟨rfl, rfl⟩




/-- One step of the sum. -/
theorem add_step (P x y c k : Nat) (va vb vz : Nat) (h : vz + P * c = va + vb) :
    vz + P * ((x + y + c) % 4294967296) + (P * 4294967296) * ((x + y + c) / 4294967296) = (va + P * x) + (vb + P * y) := by
  have e := Nat.div_add_mod (x + y + c) 4294967296
  have : P * (4294967296 * ((x + y + c) / 4294967296) + (x + y + c) % 4294967296) = P * (x + y + c) := by rw [e]
  rw [Nat.mul_add, Nat.mul_add, Nat.mul_add] at this
  rw [Nat.mul_assoc]
  omega

/-- What a sum loop keeps: Z are the digits so far, c the carry. -/
structure AddInv (l m Z : List Nat) (c k : Nat) : Prop where mk ::
  len : Z.length = l.length + 1
  dig : Dig Z
  car : c ≤ 1
  eq : val (Z.take k) + 4294967296 ^ k * c = val (l.take k) + val (m.take k)
theorem AddInv.start (l m : List Nat) : AddInv l m (List.replicate (l.length + 1) 0) 0 0 :=
  ⟨by simp, Dig.replicate _, by omega, by simp [val]⟩
theorem val_take_set {Z : List Nat} {k s : Nat} (h : k < Z.length) : val ((Z.set k s).take (k + 1)) = val (Z.take k) + 4294967296 ^ k * s := by
  rw [val_take_succ _ k (by simpa using h), List.take_set, List.set_eq_of_length_le (by rw [List.length_take]; omega)]
  congr 2
  rw [List.getD_eq_getElem?_getD, List.getElem?_set_self h]
  rfl
theorem take_getD_succ (m : List Nat) (k : Nat) : val (m.take (k + 1)) = val (m.take k) + 4294967296 ^ k * m.getD k 0 := by
  by_cases h : k < m.length
  · exact val_take_succ m k h
  · rw [List.take_of_length_le (by omega), List.take_of_length_le (by omega), List.getD_eq_getElem?_getD, List.getElem?_eq_none (by omega)]
    simp
theorem AddInv.step {l m Z : List Nat} {c k : Nat} (h : AddInv l m Z c k) (hk : k < l.length) (hl : Dig l) (hm : Dig m) :
    AddInv l m (Z.set k ((l.getD k 0 + m.getD k 0 + c) % 4294967296)) ((l.getD k 0 + m.getD k 0 + c) / 4294967296) (k + 1) := by
  have h1 := hl.getD k
  have h2 := hm.getD k
  have h3 := h.car
  refine ⟨by rw [List.length_set]; exact h.len, h.dig.set _ _ (by omega), by omega, ?_⟩
  rw [val_take_set (by rw [h.len]; omega), Nat.pow_succ, take_getD_succ l k, take_getD_succ m k]
  exact add_step _ _ _ _ k _ _ _ h.eq
theorem AddInv.last {l m Z : List Nat} {c : Nat} (h : AddInv l m Z c l.length) (hm : m.length ≤ l.length) : Dig (Z.set l.length c) ∧ val (Z.set l.length c) = val l + val m := by
  have h3 := h.car
  refine ⟨h.dig.set _ _ (by omega), ?_⟩
  have e := val_take_set (Z := Z) (k := l.length) (s := c) (by rw [h.len]; omega)
  rw [List.take_of_length_le (by rw [List.length_set, h.len]; omega), h.eq, List.take_length, List.take_of_length_le hm] at e
  exact e

set_option maxHeartbeats 4000000 in
set_option maxRecDepth 100000 in
theorem nadd_calls (v1 v2 : Value) (l1 l2 : List Nat) (w : World) (h1 : Nv w v1 l1) (h2 : Nv w v2 l2) (g1 : l1.length ≤ 1000000) (g2 : l2.length ≤ 1000000) :
    Calls Try.prog 57 #[v1, v2] w fun e w' => (∃ v', e = .returned v' ∧ Nv w' v' (dg (val l1 + val l2))) ∧ Below w.heap.size w w' := by
  have HT1 := Lib.hid (trim_num v1 l1 w h1)
  have HT2 := Lib.hid (trim_num v2 l2 w h2)
  have hl1 := dg_len_le h1.digits
  have hl2 := dg_len_le h2.digits
  have HD1 := Lib.hid (dig_dg (val l1))
  have HD2 := Lib.hid (dig_dg (val l2))
  have HV1 := Lib.hid (val_dg (val l1))
  have HV2 := Lib.hid (val_dg (val l2))
  clear h1 h2
  generalize val l1 = n1 at *
  generalize val l2 = n2 at *
  generalize dg n1 = l at *
  generalize dg n2 = m at *
  have q1 : l.length ≤ 1000000 := by omega
  have q2 : m.length ≤ 1000000 := by omega
  clear g1 g2 hl1 hl2
  go_enter Try.func57, Try.ntmps57
  go_wp2_with fail
  refine (HT1.out).mono ?_
  rintro e w1 ⟨u1, rfl, hv1, rfl⟩
  go_wp2_with fail
  refine (HT2.out).mono ?_
  rintro e w1 ⟨u2, rfl, hv2, rfl⟩
  obtain ⟨A1, c1, rfl, a1, b1, hn1⟩ := hv1.open_
  obtain ⟨A2, c2, rfl, a2, b2, hn2⟩ := hv2.open_
  have HN1 := Lib.hid hn1
  have HN2 := Lib.hid hn2
  clear hv1 hv2 hn1 hn2 b1 b2 HT1 HT2 a1 a2
  have HX := Lib.hid (Box.made w 0)
  rcases Nat.lt_or_ge l.length m.length with hlt | hge
  · have e1 : l.length < m.length := hlt
    have hmk := run_make_digits (m.length + 1) (by unfold LIM; omega)
    rw [show ((m.length + 1 : Nat) : Int) = (m.length : Int) + 1 from by omega] at hmk
    have hba : Below w.heap.size w (w.alloc (.cells #[.int .u32 0] 85)) := (Below.refl _ _).alloc (Nat.le_refl _) _
    have HBA := Lib.hid (hba.alloc (by simp) (.cells (dgs (List.replicate (m.length + 1) 0)).toArray 85))
    have HBX := Lib.hid ((Box.made w 0).keep ((Below.refl _ _).alloc (Nat.le_refl _) (.cells (dgs (List.replicate (m.length + 1) 0)).toArray 85)))
    have HRW := Lib.hid (Row.made (w.alloc (.cells #[.int .u32 0] 85)) (List.replicate (m.length + 1) 0))
    rw [show (w.alloc (.cells #[.int .u32 0] 85)).heap.size = w.heap.size + 1 from by simp] at HRW
    have HIN := Lib.hid (AddInv.start m l)
    clear hba
    go_wp2_with fail
    go_loopw [29] (fun i wr => ∃ (k : Nat) (Z : List Nat) (c : Nat), i = .int .i64 k ∧ k ≤ l.length ∧ Hid (AddInv m l Z c k) ∧ Hid (Row wr (w.heap.size + 1) Z) ∧ Hid (Box wr w.heap.size c) ∧ Hid (Below w.heap.size w wr)) (fun i _ => l.length - (intOf i).toNat)
    case atStart => exact ⟨0, _, 0, rfl, Nat.zero_le _, HIN, HRW, HBX, HBA⟩
    case round =>
      obtain ⟨k, Z, c, rfl, hk, HI, HR, HX2, HB⟩ := hrel
      clear HIN HRW HBX HBA hmk
      by_cases hlt2 : k < l.length
      · obtain ⟨b, o, rfl, t1, hc⟩ := (HN2.out.below HB.out).at_ (by omega)
        obtain ⟨b', o', rfl, t2, hc'⟩ := (HN1.out.below HB.out).at_ (by omega)
        have hx := hc k (by omega)
        have hy := hc' k (by omega)
        have HST := Lib.hid (HI.out.step (by omega) HD2.out HD1.out)
        have HC := Lib.hid (addc_calls (m.getD k 0) (l.getD k 0) c w.heap.size (HD2.out.getD k) (HD1.out.getD k) HI.out.car wr HX2.out)
        have hzl : k < Z.length := by have := HI.out.len; omega
        clear hc hc' t1 t2
        generalize m.getD k 0 = x at *
        generalize l.getD k 0 = y at *
        go_wp2_with fail
        refine (HC.out).mono ?_
        rintro e w2 ⟨rfl, rfl⟩
        have hR2 := HR.out.other ⟨w.heap.size, 0, none⟩ (.int .u32 (((x + y + c) / 4294967296 : Nat) : Int)) (by simp)
        have HX3 := Lib.hid (HX2.out.set ((x + y + c) / 4294967296))
        have HB2 := Lib.hid (HB.out.setCell (p := ⟨w.heap.size, 0, none⟩) (by simp) (.int .u32 (((x + y + c) / 4294967296 : Nat) : Int)))
        have hfz := hR2.frozen k
        have hcl := hR2.cell k hzl
        have HR2 := Lib.hid hR2
        clear hR2
        generalize (x + y + c) / 4294967296 = d at *
        generalize hs : (x + y + c) % 4294967296 = s at *
        clear hs HX2 HR HB hx hy HC
        generalize wr.setCell ⟨w.heap.size, 0, none⟩ (.int .u32 (d : Int)) = W at *
        go_wp2_with fail
        go_roundw
        case rel => exact ⟨k + 1, Z.set k s, d, by go_num, by omega, HST, Lib.hid (HR2.out.store k s hzl), Lib.hid (HX3.out.other _ _ (by simp)), Lib.hid (HB2.out.setCell (p := ⟨w.heap.size + 1, k, none⟩) (by simp) _)⟩
        case measure => simp [intOf]; omega
      · obtain rfl : k = l.length := by omega
        go_wp2_with fail
        go_loopw [10] (fun i wr => ∃ (k : Nat) (Z : List Nat) (c : Nat), i = .int .i64 k ∧ l.length ≤ k ∧ k ≤ m.length ∧ Hid (AddInv m l Z c k) ∧ Hid (Row wr (w.heap.size + 1) Z) ∧ Hid (Box wr w.heap.size c) ∧ Hid (Below w.heap.size w wr)) (fun i _ => m.length - (intOf i).toNat)
        case atStart => exact ⟨l.length, Z, c, rfl, Nat.le_refl _, by omega, HI, HR, HX2, HB⟩
        case round =>
          clear HI HR HX2 HB
          obtain ⟨k, Z, c, rfl, hk0, hk, HI, HR, HX2, HB⟩ := hrel
          by_cases hlt3 : k < m.length
          · obtain ⟨b, o, rfl, t1, hc⟩ := (HN2.out.below HB.out).at_ (by omega)
            have hx := hc k (by omega)
            have HST := Lib.hid (HI.out.step (by omega) HD2.out HD1.out)
            rw [show l.getD k 0 = 0 from by rw [List.getD_eq_getElem?_getD, List.getElem?_eq_none (by omega)]; rfl] at HST
            have HC := Lib.hid (addc_calls (m.getD k 0) 0 c w.heap.size (HD2.out.getD k) (by omega) HI.out.car wr HX2.out)
            have hzl : k < Z.length := by have := HI.out.len; omega
            clear hc t1
            generalize m.getD k 0 = x at *
            go_wp2_with fail
            refine (HC.out).mono ?_
            rintro e w2 ⟨rfl, rfl⟩
            have hR2 := HR.out.other ⟨w.heap.size, 0, none⟩ (.int .u32 (((x + 0 + c) / 4294967296 : Nat) : Int)) (by simp)
            have HX3 := Lib.hid (HX2.out.set ((x + 0 + c) / 4294967296))
            have HB2 := Lib.hid (HB.out.setCell (p := ⟨w.heap.size, 0, none⟩) (by simp) (.int .u32 (((x + 0 + c) / 4294967296 : Nat) : Int)))
            have hfz := hR2.frozen k
            have hcl := hR2.cell k hzl
            have HR2 := Lib.hid hR2
            clear hR2
            generalize (x + 0 + c) / 4294967296 = d at *
            generalize hs : (x + 0 + c) % 4294967296 = s at *
            clear hs HX2 HR HB hx HC
            generalize wr.setCell ⟨w.heap.size, 0, none⟩ (.int .u32 (d : Int)) = W at *
            go_wp2_with fail
            go_roundw
            case rel => exact ⟨k + 1, Z.set k s, d, by go_num, by omega, by omega, HST, Lib.hid (HR2.out.store k s hzl), Lib.hid (HX3.out.other _ _ (by simp)), Lib.hid (HB2.out.setCell (p := ⟨w.heap.size + 1, k, none⟩) (by simp) _)⟩
            case measure => simp [intOf]; omega
          · obtain rfl : k = m.length := by omega
            have hzl : m.length < Z.length := by have := HI.out.len; omega
            have hfz := HR.out.frozen m.length
            have hcl := HR.out.cell m.length hzl
            have hbx := HX2.out.cell
            have HRS := Lib.hid (HR.out.store m.length c hzl)
            have HLA := Lib.hid (HI.out.last (by omega))
            have HZL := Lib.hid HI.out.len
            have HBS := Lib.hid (HB.out.setCell (p := ⟨w.heap.size + 1, m.length, none⟩) (by simp) (.int .u32 (c : Int)))
            go_wp2_with fail
            have hnv := HRS.out.nv0 (m.length + 1) (by rw [List.length_set, HZL.out]; exact Nat.le_refl _) (by unfold LIM; omega) HLA.out.1
            have htr := trim_num _ _ _ hnv
            rw [HLA.out.2, List.length_set, HZL.out, HV1.out, HV2.out, Nat.add_comm n2 n1] at htr
            have HTR := Lib.hid htr
            clear htr hnv hfz hcl hbx
            refine (HTR.out).mono ?_
            rintro e w9 ⟨v9, rfl, hv9, rfl⟩
            have HV9 := Lib.hid hv9
            clear hv9
            go_wp2_with fail
            go_ret
            exact ⟨⟨_, rfl, HV9.out⟩, HBS.out⟩
  · have e1 : ¬ l.length < m.length := by omega
    have hmk := run_make_digits (l.length + 1) (by unfold LIM; omega)
    rw [show ((l.length + 1 : Nat) : Int) = (l.length : Int) + 1 from by omega] at hmk
    have hba : Below w.heap.size w (w.alloc (.cells #[.int .u32 0] 85)) := (Below.refl _ _).alloc (Nat.le_refl _) _
    have HBA := Lib.hid (hba.alloc (by simp) (.cells (dgs (List.replicate (l.length + 1) 0)).toArray 85))
    have HBX := Lib.hid ((Box.made w 0).keep ((Below.refl _ _).alloc (Nat.le_refl _) (.cells (dgs (List.replicate (l.length + 1) 0)).toArray 85)))
    have HRW := Lib.hid (Row.made (w.alloc (.cells #[.int .u32 0] 85)) (List.replicate (l.length + 1) 0))
    rw [show (w.alloc (.cells #[.int .u32 0] 85)).heap.size = w.heap.size + 1 from by simp] at HRW
    have HIN := Lib.hid (AddInv.start l m)
    clear hba
    go_wp2_with fail
    go_loopw [29] (fun i wr => ∃ (k : Nat) (Z : List Nat) (c : Nat), i = .int .i64 k ∧ k ≤ m.length ∧ Hid (AddInv l m Z c k) ∧ Hid (Row wr (w.heap.size + 1) Z) ∧ Hid (Box wr w.heap.size c) ∧ Hid (Below w.heap.size w wr)) (fun i _ => m.length - (intOf i).toNat)
    case atStart => exact ⟨0, _, 0, rfl, Nat.zero_le _, HIN, HRW, HBX, HBA⟩
    case round =>
      obtain ⟨k, Z, c, rfl, hk, HI, HR, HX2, HB⟩ := hrel
      clear HIN HRW HBX HBA hmk
      by_cases hlt2 : k < m.length
      · obtain ⟨b, o, rfl, t1, hc⟩ := (HN1.out.below HB.out).at_ (by omega)
        obtain ⟨b', o', rfl, t2, hc'⟩ := (HN2.out.below HB.out).at_ (by omega)
        have hx := hc k (by omega)
        have hy := hc' k (by omega)
        have HST := Lib.hid (HI.out.step (by omega) HD1.out HD2.out)
        have HC := Lib.hid (addc_calls (l.getD k 0) (m.getD k 0) c w.heap.size (HD1.out.getD k) (HD2.out.getD k) HI.out.car wr HX2.out)
        have hzl : k < Z.length := by have := HI.out.len; omega
        clear hc hc' t1 t2
        generalize l.getD k 0 = x at *
        generalize m.getD k 0 = y at *
        go_wp2_with fail
        refine (HC.out).mono ?_
        rintro e w2 ⟨rfl, rfl⟩
        have hR2 := HR.out.other ⟨w.heap.size, 0, none⟩ (.int .u32 (((x + y + c) / 4294967296 : Nat) : Int)) (by simp)
        have HX3 := Lib.hid (HX2.out.set ((x + y + c) / 4294967296))
        have HB2 := Lib.hid (HB.out.setCell (p := ⟨w.heap.size, 0, none⟩) (by simp) (.int .u32 (((x + y + c) / 4294967296 : Nat) : Int)))
        have hfz := hR2.frozen k
        have hcl := hR2.cell k hzl
        have HR2 := Lib.hid hR2
        clear hR2
        generalize (x + y + c) / 4294967296 = d at *
        generalize hs : (x + y + c) % 4294967296 = s at *
        clear hs HX2 HR HB hx hy HC
        generalize wr.setCell ⟨w.heap.size, 0, none⟩ (.int .u32 (d : Int)) = W at *
        go_wp2_with fail
        go_roundw
        case rel => exact ⟨k + 1, Z.set k s, d, by go_num, by omega, HST, Lib.hid (HR2.out.store k s hzl), Lib.hid (HX3.out.other _ _ (by simp)), Lib.hid (HB2.out.setCell (p := ⟨w.heap.size + 1, k, none⟩) (by simp) _)⟩
        case measure => simp [intOf]; omega
      · obtain rfl : k = m.length := by omega
        go_wp2_with fail
        go_loopw [10] (fun i wr => ∃ (k : Nat) (Z : List Nat) (c : Nat), i = .int .i64 k ∧ m.length ≤ k ∧ k ≤ l.length ∧ Hid (AddInv l m Z c k) ∧ Hid (Row wr (w.heap.size + 1) Z) ∧ Hid (Box wr w.heap.size c) ∧ Hid (Below w.heap.size w wr)) (fun i _ => l.length - (intOf i).toNat)
        case atStart => exact ⟨m.length, Z, c, rfl, Nat.le_refl _, by omega, HI, HR, HX2, HB⟩
        case round =>
          clear HI HR HX2 HB
          obtain ⟨k, Z, c, rfl, hk0, hk, HI, HR, HX2, HB⟩ := hrel
          by_cases hlt3 : k < l.length
          · obtain ⟨b, o, rfl, t1, hc⟩ := (HN1.out.below HB.out).at_ (by omega)
            have hx := hc k (by omega)
            have HST := Lib.hid (HI.out.step (by omega) HD1.out HD2.out)
            rw [show m.getD k 0 = 0 from by rw [List.getD_eq_getElem?_getD, List.getElem?_eq_none (by omega)]; rfl] at HST
            have HC := Lib.hid (addc_calls (l.getD k 0) 0 c w.heap.size (HD1.out.getD k) (by omega) HI.out.car wr HX2.out)
            have hzl : k < Z.length := by have := HI.out.len; omega
            clear hc t1
            generalize l.getD k 0 = x at *
            go_wp2_with fail
            refine (HC.out).mono ?_
            rintro e w2 ⟨rfl, rfl⟩
            have hR2 := HR.out.other ⟨w.heap.size, 0, none⟩ (.int .u32 (((x + 0 + c) / 4294967296 : Nat) : Int)) (by simp)
            have HX3 := Lib.hid (HX2.out.set ((x + 0 + c) / 4294967296))
            have HB2 := Lib.hid (HB.out.setCell (p := ⟨w.heap.size, 0, none⟩) (by simp) (.int .u32 (((x + 0 + c) / 4294967296 : Nat) : Int)))
            have hfz := hR2.frozen k
            have hcl := hR2.cell k hzl
            have HR2 := Lib.hid hR2
            clear hR2
            generalize (x + 0 + c) / 4294967296 = d at *
            generalize hs : (x + 0 + c) % 4294967296 = s at *
            clear hs HX2 HR HB hx HC
            generalize wr.setCell ⟨w.heap.size, 0, none⟩ (.int .u32 (d : Int)) = W at *
            go_wp2_with fail
            go_roundw
            case rel => exact ⟨k + 1, Z.set k s, d, by go_num, by omega, by omega, HST, Lib.hid (HR2.out.store k s hzl), Lib.hid (HX3.out.other _ _ (by simp)), Lib.hid (HB2.out.setCell (p := ⟨w.heap.size + 1, k, none⟩) (by simp) _)⟩
            case measure => simp [intOf]; omega
          · obtain rfl : k = l.length := by omega
            have hzl : l.length < Z.length := by have := HI.out.len; omega
            have hfz := HR.out.frozen l.length
            have hcl := HR.out.cell l.length hzl
            have hbx := HX2.out.cell
            have HRS := Lib.hid (HR.out.store l.length c hzl)
            have HLA := Lib.hid (HI.out.last (by omega))
            have HZL := Lib.hid HI.out.len
            have HBS := Lib.hid (HB.out.setCell (p := ⟨w.heap.size + 1, l.length, none⟩) (by simp) (.int .u32 (c : Int)))
            go_wp2_with fail
            have hnv := HRS.out.nv0 (l.length + 1) (by rw [List.length_set, HZL.out]; exact Nat.le_refl _) (by unfold LIM; omega) HLA.out.1
            have htr := trim_num _ _ _ hnv
            rw [HLA.out.2, List.length_set, HZL.out, HV1.out, HV2.out] at htr
            have HTR := Lib.hid htr
            clear htr hnv hfz hcl hbx
            refine (HTR.out).mono ?_
            rintro e w9 ⟨v9, rfl, hv9, rfl⟩
            have HV9 := Lib.hid hv9
            clear hv9
            go_wp2_with fail
            go_ret
            exact ⟨⟨_, rfl, HV9.out⟩, HBS.out⟩

end Go.Proofs.Ytgmooidagkbheaa
