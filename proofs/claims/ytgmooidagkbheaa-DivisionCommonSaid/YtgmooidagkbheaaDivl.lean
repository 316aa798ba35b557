/-
  division.divide, the long case.
-/
import Derived.Test.YtgmooidagkbheaaDiv
import Derived.Test.YtgmooidagkbheaaQt
namespace Go.Proofs.Ytgmooidagkbheaa
open Go.RowKit Go.Proofs.YtgmooidagkbheaaW.PrintWords
set_option linter.unusedVariables false

theorem splice_zeros (l : List Nat) (m : Nat) (h : l.length ≤ m) : splice (dgs (List.replicate m 0)) 0 (dgs l) = dgs (l ++ List.replicate (m - l.length) 0) := by
  simp only [splice, dgs, List.take_zero, List.nil_append, Nat.zero_add, List.length_map, List.map_append]
  congr 1
  rw [← List.map_drop, List.drop_replicate]
theorem val_pad (l : List Nat) (k : Nat) : val (l ++ List.replicate k 0) = val l := by
  rw [val_append, val_replicate, Nat.mul_zero, Nat.add_zero]

theorem indexAt_digit (b o len cap i : Nat) (h : i < len) (w : World) :
    (Instr.indexAt 23 (.slice (some ⟨b, o, none⟩) len cap) (.int .i64 (i : Int))).run Try.prog w = .ok (.pointer (some ⟨b, o + i, none⟩)) w := by
  have e1 : ∀ w, (sizeOf (Try.prog.elem 23)).run Try.prog w = .ok 1 w := fun w => by kernel_rfl
  rw [run_indexAt_slice w _ _ _ _ _ _ (by kernel_rfl), if_pos ⟨by omega, by omega⟩, e1]
  simp [Result.andThen, add_plain']

theorem getD_set_same {l : List Nat} {k : Nat} (h : k < l.length) (x : Nat) : (l.set k x).getD k 0 = x := by
  rw [List.getD_eq_getElem?_getD, List.getElem?_set_self h]
  rfl
theorem hlt_all {U : List Nat} {n m mq k : Nat} (hl : U.length = m) (h : n + mq = m) (hk : k < mq) : k + n < U.length := by omega

set_option maxHeartbeats 8000000 in
set_option maxRecDepth 100000 in
theorem divide_long (va vb : Value) (la lb : List Nat) (w : World) (h1 : Nv w va la) (h2 : Nv w vb lb) (g1 : la.length ≤ 100000) (g2 : lb.length ≤ 100000) (hle : val lb ≤ val la) (hb0 : val lb ≠ 0) (hlong : 2 ≤ (dg (val lb)).length) :
    Calls Try.prog 49 #[va, vb] w fun e w' => (∃ vq vr, e = .returned (.tuple #[vq, vr]) ∧ Nv w' vq (dg (val la / val lb)) ∧ Nv w' vr (dg (val la % val lb))) ∧ Below w.heap.size w w' := by
  have HN := Lib.hid (normal_num vb lb w h2)
  have HA := Lib.hid h1
  have HC : Hid (0 ≤ cmpN (val la) (val (dg (val lb)))) := Lib.hid (by
    rw [val_dg]
    unfold cmpN
    rw [if_neg (by omega)]
    split <;> omega)
  obtain ⟨c, hc⟩ : ∃ c, cmpN (val la) (val (dg (val lb))) = c := ⟨_, rfl⟩
  rw [hc] at HC
  have hc0 : ¬ (c < 0) := by have := HC.out; omega
  have HCC := Lib.hid hc
  have hla := dg_len_le h1.digits
  have hlb := dg_len_le h2.digits
  have HSL := Lib.hid (fun s (hs : s = 32 - bl ((dg (val lb)).getD ((dg (val lb)).length - 1) 0)) => shift_len hb0 hs)
  have HSG := Lib.hid (fun s => shift_lt (s := s) hb0 hle)
  have HLZ := Lib.hid (fun w => lz32_calls ((dg (val lb)).getD ((dg (val lb)).length - 1) 0) ((dig_dg _).getD _) w)
  have HG1 := Lib.hid g1
  have HB0 := Lib.hid hb0
  have HDB := Lib.hid (dig_dg (val lb))
  have HVB := Lib.hid (val_dg (val lb))
  have HTOP := Lib.hid (dg_ne_last hb0)
  clear h1 h2 hle hc g1 hb0
  generalize hn : (dg (val lb)).length = n at *
  obtain ⟨n1, hn1⟩ : ∃ n1, n - 1 = n1 := ⟨_, rfl⟩
  have e1 : (n : Int) - 1 = (n1 : Int) := by omega
  have hn1lt : n1 < n := by omega
  have c1 : ((n : Int) == 1) = false := beq_eq_false_iff_ne.2 (by omega)
  rw [hn1] at HSL HLZ HTOP
  obtain ⟨s, hs⟩ : ∃ s, 32 - bl ((dg (val lb)).getD n1 0) = s := ⟨_, rfl⟩
  obtain ⟨HL1, HL2⟩ := HSL.out s hs.symm
  rw [hs] at HLZ
  have hs2 : s < 32 := HL2
  go_enter Try.func49, Try.ntmps49
  go_wp2_with fail
  go_step3
  go_wp2_with fail
  refine (HN.out).mono ?_
  rintro e w1 ⟨⟨v1, rfl, hv1⟩, hb1⟩
  have HC2 := Lib.hid (ncmp_calls va v1 la _ w1 (HA.out.below hb1) hv1)
  rw [HCC.out] at HC2
  have HB1 := Lib.hid hb1
  obtain ⟨A1, k1, rfl, a1, b1, hn2⟩ := hv1.open_
  have HV1 := Lib.hid hv1
  clear hv1 hb1 b1 a1 hn2
  rw [hn] at HC2 HV1 ⊢
  have HHN := Lib.hid hn
  have HS := Lib.hid hs
  have HLL := Lib.hid HL1
  clear hn hs HL1 HL2 HSL
  go_wp2_with fail
  refine (HC2.out).mono ?_
  rintro e w2 ⟨rfl, hb2⟩
  obtain ⟨b, o, rfl, t1, hcell⟩ := Nv.at_ (A := A1) (c := k1) (l := dg (val lb)) (w := w2) (by rw [HHN.out]; exact HV1.out.below hb2) (by rw [HHN.out]; omega)
  have hx := hcell n1 (by rw [HHN.out]; omega)
  have HB2 := Lib.hid (HB1.out.trans (hb2.mono HB1.out.size))
  have HV2 := Lib.hid (HV1.out.below hb2)
  clear hb2 hcell t1 HV1 HB1
  generalize (dg (val lb)).getD n1 0 = top at *
  go_wp2_with fail
  refine (HLZ.out w2).mono ?_
  rintro e w2 ⟨rfl, rfl⟩
  have hn3 : n ≤ 100000 := by omega
  have HS1 := Lib.hid (nshl_calls _ _ s w2 HV2.out (by rw [HHN.out]; omega) (by omega))
  rw [HVB.out] at HS1
  have hmm : (dg (val la)).length ≤ 100000 := by have := HG1.out; omega
  clear HV2 HLZ hx
  go_wp2_with fail
  refine (HS1.out).mono ?_
  rintro e w3 ⟨⟨v3, rfl, hv3⟩, hb3⟩
  have HB3 := Lib.hid (HB2.out.trans (hb3.mono HB2.out.size))
  obtain ⟨A3, k3, rfl, a3, b3, hn4⟩ := hv3.open_
  rw [HLL.out] at a3 hn4 ⊢
  have HV3 := Lib.hid hn4
  have HN4 := Lib.hid (normal_num va la w3 (HA.out.below HB3.out))
  clear hv3 hb3 HS1 a3 b3 hn4
  go_wp2_with fail
  refine (HN4.out).mono ?_
  rintro e w4 ⟨⟨v4, rfl, hv4⟩, hb4⟩
  have HB4 := Lib.hid (HB3.out.trans (hb4.mono HB3.out.size))
  have HV4 := Lib.hid (HV3.out.below hb4)
  obtain ⟨A4, k4, rfl, a4, b4, hn5⟩ := hv4.open_
  clear hv4 hb4 a4 b4 hn5 HV3 HN4
  obtain ⟨m0, hm0⟩ : ∃ m0, (dg (val la)).length = m0 := ⟨_, rfl⟩
  rw [hm0] at hmm ⊢
  obtain ⟨m, hm⟩ : ∃ m, m0 + 1 = m := ⟨_, rfl⟩
  have e2 : (m0 : Int) + 1 = (m : Int) := by omega
  have hmk := run_make_digits m (by unfold LIM; omega)
  have HM0 := Lib.hid hm0
  have HM := Lib.hid hm
  clear hm0 hm
  have hba : Below w4.heap.size w4 (w4.alloc (.cells (dgs (List.replicate m 0)).toArray 85)) := (Below.refl _ _).alloc (Nat.le_refl _) _
  have HB5 := Lib.hid (HB4.out.trans (hba.mono HB4.out.size))
  have HBA := Lib.hid hba
  have HR5 := Lib.hid (Row.made w4 (List.replicate m 0))
  have HS2 := Lib.hid (nshl_calls va la s _ (HA.out.below HB5.out) (by have := HG1.out; omega) (by omega))
  clear hba
  go_wp2_with fail
  refine (HS2.out).mono ?_
  rintro e w6 ⟨⟨v6, rfl, hv6⟩, hb6⟩
  have HB6 := Lib.hid (HB5.out.trans (hb6.mono HB5.out.size))
  have HR6 := Lib.hid (HR5.out.keep hb6)
  have HBA6 := Lib.hid (HBA.out.trans (hb6.mono HBA.out.size))
  have h6m : (dg (val la * 2 ^ s)).length ≤ m := by
    refine dg_length_le ?_
    rw [← HM.out, Nat.pow_succ]
    have h8 := le_dg_length (Nat.le_of_eq HM0.out)
    have h9 : 2 ^ s ≤ 4294967296 := Nat.pow_le_pow_right (by decide) (by omega : s ≤ 32)
    exact Nat.lt_of_lt_of_le (Nat.mul_lt_mul_of_pos_right h8 (Nat.two_pow_pos s)) (Nat.mul_le_mul_left _ h9)
  have HD6 := Lib.hid (dig_dg (val la * 2 ^ s))
  have HV6 := Lib.hid (val_dg (val la * 2 ^ s))
  obtain ⟨A6, k6, rfl, a6, b6, hn6⟩ := hv6.open_
  have HN6 := Lib.hid hn6
  clear hv6 hb6 a6 b6 hn6 HS2 HR5 HBA hmk
  generalize hl6 : dg (val la * 2 ^ s) = l6 at *
  clear hl6
  have hsz1 : (Try.prog.info? 85).map (·.size) = some 1 := by kernel_rfl
  have HS := Lib.hid hsz1
  clear hsz1
  go_wp2_with (with_reducible refine wpList_copy_splice rfl (.tmp 56) (.tmp 59) 23 23 rfl 85 Try.underlying23 HS.out _ _ _ _ _ _ rfl rfl w4.heap.size 0 (dgs (List.replicate m 0)) 85 HR6.out.out (dgs l6) ?k1 ?k2 ?k3 (dgs_one l6) w4.heap.size w4 HBA6.out (Nat.le_refl _) ?_)
  case k1 => rw [dgs_length]; exact (Nat.min_eq_left h6m).symm
  case k2 =>
    intro hp
    rw [dgs_length] at hp
    try refine ⟨rfl, ?_⟩
    obtain ⟨b, o, rfl, hlt, hc⟩ := HN6.out.at_ hp
    refine ⟨_, rfl, fun j v hj => ?_⟩
    have hjl : j < l6.length := by
      have := (List.getElem?_eq_some_iff.1 hj).1
      rw [dgs_length] at this
      exact this
    rw [dgs_get l6 j hjl] at hj
    cases hj
    rw [add_plain']
    exact hc j hjl
  case k3 => rw [dgs_length, dgs_length, List.length_replicate]; omega
  intro w7 HG7 hB7
  have HR7 : Hid (Row w7 w4.heap.size (l6 ++ List.replicate (m - l6.length) 0)) := Lib.hid ⟨by
    have := HG7.out
    rw [splice_zeros _ _ h6m] at this
    exact this⟩
  have HBA7 := Lib.hid hB7
  clear HG7 hB7 HR6 HBA6 HN6
  have hnm : n ≤ m0 ∧ val la * 2 ^ s < val lb * 2 ^ s * 4294967296 ^ (m0 + 1 - n) := by
    have := HSG.out s
    rw [HM0.out] at this
    exact ⟨this.2, this.1⟩
  obtain ⟨mq, hmq⟩ : ∃ mq, m - n = mq := ⟨_, rfl⟩
  have e3 : (m : Int) - (n : Int) = (mq : Int) := by have := HM.out; omega
  have hmk2 := run_make_digits mq (by unfold LIM; omega)
  have HV7 := Lib.hid (fun w' (h : Below w4.heap.size w4 w') => HV4.out.below h)
  have hl3 : ∃ l3, dg (val lb * 2 ^ s) = l3 := ⟨_, rfl⟩
  obtain ⟨l3, hl3⟩ := hl3
  rw [hl3] at HV7
  have HD3 : Hid (Dig l3) := Lib.hid (by rw [← hl3]; exact dig_dg _)
  have HV3 : Hid (val l3 = val lb * 2 ^ s) := Lib.hid (by rw [← hl3]; exact val_dg _)
  have HLL3 : Hid (l3.length = n) := Lib.hid (by rw [← hl3]; exact HLL.out)
  have HTP3 : Hid (l3.getD (n - 1) 0 ≠ 0) := Lib.hid (by
    have := dg_ne_last (n := val lb * 2 ^ s) (Nat.mul_ne_zero HB0.out (Nat.ne_of_gt (Nat.two_pow_pos s)))
    rw [hl3, HLL3.out] at this
    exact this)
  have HIN : Hid (DvInv (val la * 2 ^ s) (val l3) n m (l6 ++ List.replicate (m - l6.length) 0) (List.replicate mq 0) mq) := Lib.hid (by
    rw [← hmq]
    refine DvInv.start (HD6.out.append (Dig.replicate _)) (by simp; omega) (by have := HM.out; omega) (by rw [val_pad]; exact HV6.out) ?_
    rw [HV3.out, ← HM.out]
    exact hnm.2)
  have HMQ := Lib.hid hmq
  have hmq0 : Hid (mq ≤ 100001) := Lib.hid (by have := HM.out; omega)
  have hba8 : Below w7.heap.size w7 (w7.alloc (.cells (dgs (List.replicate mq 0)).toArray 85)) := (Below.refl _ _).alloc (Nat.le_refl _) _
  have HR8 := Lib.hid (HR7.out.keep hba8)
  have HQ8 := Lib.hid (Row.made w7 (List.replicate mq 0))
  have HBA8 := Lib.hid (HBA7.out.trans (hba8.mono HBA7.out.size))
  have HGH : Hid (w4.heap.size < w7.heap.size) := Lib.hid HR7.out.lt
  have HNM : Hid (n + mq = m) := Lib.hid (by have := HM.out; omega)
  clear hl3 hmq hba8 HR7 HBA7 hnm h6m HV4
  generalize l6 ++ List.replicate (m - l6.length) 0 = U0 at *
  go_wp2_with fail
  go_step3
  go_wp2_with fail
  go_loopw [13] (fun i wr => ∃ (k : Nat) (U Q : List Nat), i = .int .i64 ((k : Int) - 1) ∧ k ≤ mq ∧ Hid (DvInv (val la * 2 ^ s) (val l3) n m U Q k) ∧ Hid (Row wr w4.heap.size U) ∧ Hid (Row wr w7.heap.size Q) ∧ Hid (Below w4.heap.size w4 wr)) (fun i wr => (intOf i + 1).toNat)
  case atStart => exact ⟨mq, U0, _, rfl, Nat.le_refl _, HIN, HR8, HQ8, HBA8⟩
  case round =>
    obtain ⟨k0, U, Q, rfl, hk, HI, HRU, HRQ, HB⟩ := hrel
    clear HIN HR8 HQ8 HBA8 hmk2
    rcases k0 with _ | k
    · have HL := Lib.hid HI.out.last
      have HUL := Lib.hid HI.out.lenU
      have HQL := Lib.hid HI.out.lenQ
      have HUD := Lib.hid HI.out.digU
      have HQD := Lib.hid HI.out.digQ
      simp only [Int.natCast_zero, Int.zero_sub] at *
      have hnq := HRQ.out.nv0 mq (by rw [HQL.out, HMQ.out]; exact Nat.le_refl _) (by unfold LIM; have := hmq0.out; omega) HQD.out
      rw [HQL.out, HMQ.out] at hnq
      have HNQ := Lib.hid (normal_num _ _ wr hnq)
      rw [HL.out.1, HV3.out, Nat.mul_div_mul_right _ _ (Nat.two_pow_pos s)] at HNQ
      have hnu := HRU.out.nv0 m (by rw [HUL.out]; exact Nat.le_refl _) (by unfold LIM; have := HM.out; omega) HUD.out
      rw [HUL.out] at hnu
      have HNU := Lib.hid hnu
      have hml : U.length ≤ 1000000 := by rw [HUL.out]; have := HM.out; omega
      clear hnq hnu
      go_wp2_with fail
      refine (HNQ.out).mono ?_
      rintro e w9 ⟨⟨v9, rfl, hv9⟩, hb9⟩
      have HSH := Lib.hid (nshr_calls (.slice (some ⟨w4.heap.size, 0, none⟩) U.length m) U s w9 (by rw [HUL.out]; exact HNU.out.below hb9) hml (by omega))
      rw [HL.out.2, HV3.out, Nat.mul_mod_mul_right, Nat.mul_div_cancel _ (Nat.two_pow_pos s), HUL.out] at HSH
      have HB9 := Lib.hid (HB.out.trans (hb9.mono HB.out.size))
      have HV9 := Lib.hid hv9
      clear hv9 hb9 HNQ
      go_wp2_with fail
      refine (HSH.out).mono ?_
      rintro e w10 ⟨⟨v10, rfl, hv10⟩, hb10⟩
      have HV10 := Lib.hid hv10
      have HV9b := Lib.hid (HV9.out.below hb10)
      have HB10 := Lib.hid (HB4.out.trans ((HB9.out.trans (hb10.mono HB9.out.size)).mono HB4.out.size))
      clear hv10 hb10
      go_wp2_with fail
      try rw [Exit.noGoto_ret]
      go_ret2
      exact ⟨⟨_, _, rfl, HV9b.out, HV10.out⟩, HB10.out⟩
    · rw [show (((k + 1 : Nat) : Int) - 1) = (k : Int) from by omega]
      obtain ⟨F1, F2, F3, F4, F5, F6⟩ := part_facts HI.out (by have := HMQ.out; omega) HD3.out HLL3.out hlong HTP3.out
      obtain ⟨k2, hk2⟩ : ∃ k2, k + n + 1 = k2 := ⟨_, rfl⟩
      have e4 : (k : Int) + (n : Int) + 1 = (k2 : Int) := by omega
      have hk3 : k2 ≤ m := by have := HNM.out; omega
      have hk4 : k ≤ k2 := by omega
      have hk5 : k2 - k = n + 1 := by omega
      have HF := Lib.hid (And.intro F2 (And.intro F4 (And.intro F5 F6)))
      obtain ⟨n2, hn2⟩ : ∃ n2, n - 2 = n2 := ⟨_, rfl⟩
      have e5 : (n : Int) - 2 = (n2 : Int) := by omega
      have HE : Hid (estAt U l3 n k = est (U.getD (k + n) 0) (U.getD (k + n1) 0) (U.getD (k + n2) 0) (l3.getD n1 0) (l3.getD n2 0)) := Lib.hid (by unfold estAt; rw [hn1, hn2])
      obtain ⟨b3, o3, rfl, t3, hc3⟩ := Nv.at_ (A := A3) (c := k3) (l := l3) (w := wr) (by rw [HLL3.out]; exact HV7.out _ HB.out) (by rw [HLL3.out]; omega)
      have lv1 := hc3 n1 (by rw [HLL3.out]; omega)
      have lv2 := hc3 n2 (by rw [HLL3.out]; omega)
      have hul := HI.out.lenU
      have hql := HI.out.lenQ
      have lu2 := HRU.out.cell (k + n) (by omega)
      have lu1 := HRU.out.cell (k + n1) (by omega)
      have lu0 := HRU.out.cell (k + n2) (by omega)
      have hqk : k < Q.length := by rw [hql, HMQ.out]; omega
      have lq := HRQ.out.cell k hqk
      have fq := HRQ.out.frozen k
      have hkq : k < mq := by omega
      have HES := Lib.hid (fun w => estimate_calls (U.getD (k + n) 0) (U.getD (k + n1) 0) (U.getD (k + n2) 0) (l3.getD n1 0) (l3.getD n2 0) (by have := F3; rwa [hn1] at this) (HI.out.digU.getD _) (HI.out.digU.getD _) (by have := HTP3.out; rw [hn1] at this; omega) (HD3.out.getD _) (HD3.out.getD _) w)
      have hnn1 : n1 < n + 1 := by omega
      have hnn2 : n2 < n + 1 := by omega
      have hn2lt : n2 < n := by omega
      have lqs : (wr.cell? ⟨w7.heap.size, k, none⟩).isSome = true := by rw [lq]; rfl
      have hgh : w7.heap.size ≠ w4.heap.size := by have := HGH.out; omega
      have hbh : w7.heap.size ≠ b3 := by
        have h5 := (HV7.out w4 (Below.refl _ _))
        obtain ⟨b', o', e', t', _⟩ := Nv.at_ (A := some ⟨b3, o3, none⟩) (c := k3) (l := l3) (w := w4) (by rw [HLL3.out]; exact h5) (by rw [HLL3.out]; omega)
        cases e'
        have := HGH.out
        omega
      clear hk2 F1 F2 F3 F4 F5 F6 hn2 hc3 t3 hul hql hgh hbh
      generalize est (U.getD (k + n) 0) (U.getD (k + n1) 0) (U.getD (k + n2) 0) (l3.getD n1 0) (l3.getD n2 0) = E at *
      generalize U.getD (k + n) 0 = u2 at *
      generalize U.getD (k + n1) 0 = u1 at *
      generalize U.getD (k + n2) 0 = u0 at *
      generalize l3.getD n1 0 = y1 at *
      generalize l3.getD n2 0 = y2 at *
      generalize Q.getD k 0 = q0 at *
      go_wp2_with fail
      refine wp_region_quiet_tail_lit 28 (by kernel_rfl) (by kernel_rfl) ?_
      simp only [List.take_succ_cons, List.take_zero, List.drop_succ_cons, List.drop_zero]
      repeat (go_big_quiet_step ((go_at_call 75; exact Calls.quiet_of (HES.out _))))
      refine wpQuiet_nil ?_
      intro w8 hw8
      obtain ⟨nq, rfl⟩ := hw8
      have hf0 := HF.out
      rw [HE.out] at hf0
      have HF2 := Lib.hid hf0
      have HHL := Lib.hid (hlt_all HI.out.lenU HNM.out hkq)
      have hlen : ((Q.set k E).getD k 0) = E := getD_set_same hqk E
      have hB1 : Below w4.heap.size w4 ((wr.drewN nq).setCell ⟨w7.heap.size, k, none⟩ (.int .u32 (E : Int))) := (below_drewN HB.out nq).setCell (p := ⟨w7.heap.size, k, none⟩) (Nat.le_of_lt HGH.out) _
      have hne4 : w4.heap.size ≠ w7.heap.size := Nat.ne_of_lt HGH.out
      have hU1 : Row ((wr.drewN nq).setCell ⟨w7.heap.size, k, none⟩ (.int .u32 (E : Int))) w4.heap.size U := (HRU.out.drewN nq).other _ _ hne4
      have hQ1 : Row ((wr.drewN nq).setCell ⟨w7.heap.size, k, none⟩ (.int .u32 (E : Int))) w7.heap.size (Q.set k E) := (HRQ.out.drewN nq).store k E hqk
      have lq1 := hQ1.cell k (by rw [List.length_set]; exact hqk)
      rw [hlen] at lq1
      have hsm := smul_calls w4.heap.size k n (m - k) E U l3 (.slice (some ⟨b3, o3, none⟩) n k3) _ hU1 HI.out.digU HLL3.out HHL.out (by omega) HF2.out.2.2.2 HD3.out (fun w' h => HV7.out w' (hB1.trans h))
      have HSM := Lib.hid hsm
      have HB1 := Lib.hid hB1
      have HQ1 := Lib.hid hQ1
      have HNE := Lib.hid hne4
      have fqq := hQ1.frozen k
      clear hsm hB1 hU1 hQ1 hne4 hlen hf0 lv1 lv2 lu0 lu1 lu2
      go_wp2_with fail
      refine (HSM.out).mono ?_
      rintro e w9 ⟨Z, bo, rfl, hse, hrz, hbz, hoz⟩
      have HQ9 := Lib.hid (HQ1.out.only hoz (Ne.symm HNE.out))
      have HB9 := Lib.hid (HB1.out.trans hbz)
      have HRZ := Lib.hid hrz
      have hb01 := hse.brw
      have h01 : bo = 0 ∨ bo = 1 := by omega
      clear HSM hrz hbz hoz hb01 HQ1 HB1 HRU HRQ HB lq1 fqq fq lq
      rcases h01 with rfl | rfl
      · have HST := Lib.hid (HI.out.hit (by rw [HMQ.out]; exact hk) HF2.out.2.1 HF2.out.2.2.2 hse)
        clear hse HI
        go_wp2_with fail
        exact ⟨⟨k, Z, _, rfl, by omega, HST, HRZ, HQ9, HB9⟩, by simp [intOf]⟩
      · have HSE := Lib.hid hse
        obtain ⟨s1, hs1⟩ : ∃ s1 : Nat, ((E : Int) - 1) % 4294967296 = (s1 : Int) := ⟨(((E : Int) - 1) % 4294967296).toNat, by omega⟩
        have HS1 := Lib.hid hs1
        have hq9 := HQ9.out.cell k (by rw [List.length_set]; exact hqk)
        rw [getD_set_same hqk E] at hq9
        have fq9 := HQ9.out.frozen k
        have HQa := Lib.hid (HQ9.out.store k s1 (by rw [List.length_set]; exact hqk))
        have hba := HB9.out.setCell (p := ⟨w7.heap.size, k, none⟩) (Nat.le_of_lt HGH.out) (.int .u32 (s1 : Int))
        have HBa := Lib.hid hba
        have hra := HRZ.out.other ⟨w7.heap.size, k, none⟩ (.int .u32 (s1 : Int)) HNE.out
        have HAB := Lib.hid (addback_calls w4.heap.size k n (m - k) Z l3 (.slice (some ⟨b3, o3, none⟩) n k3) _ hra HSE.out.dig HLL3.out (by rw [HSE.out.len]; exact HHL.out) (by omega) HD3.out (fun w' h => HV7.out w' (hba.trans h)))
        clear hse hba hra
        go_wp2_with fail
        refine (HAB.out).mono ?_
        rintro e w10 ⟨Z2, ov, ⟨u, rfl⟩, hae, hrz, hbz, hoz⟩
        have HQb := Lib.hid (HQa.out.only hoz (Ne.symm HNE.out))
        have HBb := Lib.hid (HBa.out.trans hbz)
        have HRb := Lib.hid hrz
        have HM := HI.out.miss (by rw [HMQ.out]; exact hk) HD3.out HLL3.out HF2.out.1 HF2.out.2.2.1 HF2.out.2.2.2 HSE.out hae
        have HEs : s1 = E - 1 := by
          have := HS1.out
          have := HM.1
          have := HF2.out.2.2.2
          omega
        have HST := Lib.hid HM.2
        rw [List.set_set, HEs] at HQb
        clear HM HAB hae hrz hbz hoz HQa HBa hq9 fq9 hs1 HI HQ9 HB9 HRZ HEs
        go_wp2_with fail
        exact ⟨⟨k, Z2, _, rfl, by omega, HST, HRb, HQb, HBb⟩, by simp [intOf]⟩

/-- division.divide: quotient and remainder of numbers of any length up to 100000 digits. -/
theorem divide_calls (va vb : Value) (la lb : List Nat) (w : World) (h1 : Nv w va la) (h2 : Nv w vb lb) (g1 : la.length ≤ 100000) (g2 : lb.length ≤ 100000) (hb0 : val lb ≠ 0) :
    Calls Try.prog 49 #[va, vb] w fun e w' => (∃ vq vr, e = .returned (.tuple #[vq, vr]) ∧ Nv w' vq (dg (val la / val lb)) ∧ Nv w' vr (dg (val la % val lb))) ∧ Below w.heap.size w w' := by
  rcases Nat.lt_or_ge (val la) (val lb) with h | h
  · exact divide_less va vb la lb w h1 h2 h
  · have hl : (dg (val lb)).length ≠ 0 := fun e => hb0 (dg_eq_nil.1 (List.length_eq_zero_iff.1 e))
    rcases Nat.lt_or_ge (dg (val lb)).length 2 with h' | h'
    · exact divide_one va vb la lb w h1 h2 g1 h hb0 (by omega)
    · exact divide_long va vb la lb w h1 h2 g1 g2 h hb0 h'

end Go.Proofs.Ytgmooidagkbheaa
