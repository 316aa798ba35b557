/-
  division.Gcd: the greatest common divisor.
-/
import Derived.Test.YtgmooidagkbheaaU64
import Derived.Deep.LoopGhost
namespace Go.Proofs.Ytgmooidagkbheaa
open Go.RowKit Go.Proofs.YtgmooidagkbheaaW.PrintWords
set_option linter.unusedVariables false

theorem dg_len_two {n : Nat} (h : (dg n).length ≤ 2) : n < 18446744073709551616 := by
  have := le_dg_length h
  simpa using this
theorem gcd_step (m n : Nat) : Nat.gcd n (m % n) = Nat.gcd m n := by rw [Nat.gcd_comm m n, Nat.gcd_rec n m, Nat.gcd_comm]

set_option maxHeartbeats 8000000 in
set_option maxRecDepth 100000 in
theorem gcd_calls (v1 v2 : Value) (g1 g2 : Bool) (l1 l2 : List Nat) (w : World) (h1 : Iv w v1 g1 l1) (h2 : Iv w v2 g2 l2) (k1 : l1.length ≤ 100000) (k2 : l2.length ≤ 100000) :
    Calls Try.prog 30 #[v1, v2] w fun e w' => (∃ v, e = .returned v ∧ In w' v ((Nat.gcd (val l1) (val l2) : Nat) : Int)) ∧ Below w.heap.size w w' := by
  obtain ⟨A1, c1, rfl, _, _, hs1⟩ := h1.open_
  obtain ⟨A2, c2, rfl, _, _, hs2⟩ := h2.open_
  have hbx := boxes3 w (.bool g1) (.slice A1 l1.length c1) (.bool g2) (.slice A2 l2.length c2)
  generalize hW : ((w.alloc (.cells #[.bool g1, .slice A1 l1.length c1] 25)).alloc (.cells #[.bool g2, .slice A2 l2.length c2] 25)).alloc (.cells #[.bool false, .slice none 0 0] 25)  = W at hbx
  obtain ⟨hbw, ht0, ht1, ht2⟩ := hbx
  have T0 := Lib.hid ht0.drew
  have T1 := Lib.hid ht1.drew
  have T2 := Lib.hid ht2.drew
  have HB : Hid (Below w.heap.size w W.drew) := Lib.hid (below_drewN hbw 1)
  have HN1 := Lib.hid (normal_num _ l1 W.drew (hs1.below hbw).drew)
  have HN2 := Lib.hid (fun w' (h : Below W.drew.heap.size W.drew w') => normal_num _ l2 w' ((hs2.below hbw).drew.below h))
  have d1 := dg_len_le hs1.digits
  have d2 := dg_len_le hs2.digits
  have HW := Lib.hid hW
  have p2 := T0.out.c1
  have p4 := T1.out.c1
  generalize val l1 = m at *
  generalize val l2 = n at *
  obtain ⟨G, hG⟩ : ∃ G, Nat.gcd m n = G := ⟨_, rfl⟩
  have HG := Lib.hid hG
  have hm : (dg m).length ≤ 100000 := by omega
  have hn : (dg n).length ≤ 100000 := by omega
  have HK := Lib.hid (And.intro hm hn)
  rw [hG]
  clear h1 h2 hs1 hs2 d1 d2 hbw ht0 ht1 ht2 hW hG hm hn k1 k2
  go_enter Try.func30, Try.ntmps30
  go_wp2_with fail
  rw [HW.out]
  go_region_held3 (fun w' => w'.cell? ⟨w.heap.size, 1, none⟩ = some (.slice A1 l1.length c1) ∧ w'.cell? ⟨w.heap.size + 1, 1, none⟩ = some (.slice A2 l2.length c2))
    ((refine ⟨?_, ?_⟩ <;> with_reducible assumption))
    (first
     | (go_at_call 60; with_reducible refine (HN1.out).mono ?_; rintro e w1 ⟨⟨u1, rfl, hv1⟩, hb1⟩; obtain ⟨A3, c3, rfl, _, _, hv2⟩ := hv1.open_
        have X1 := Lib.hid hv2
        have HB1 := Lib.hid hb1
        have T0x := Lib.hid (T0.out.keep hb1)
        have T1x := Lib.hid (T1.out.keep hb1)
        have T2x := Lib.hid (T2.out.keep hb1)
        have r2 := T0x.out.c1
        have r4 := T1x.out.c1)
     | (go_at_call 60; with_reducible refine (HN2.out _ HB1.out).mono ?_; rintro e w2 ⟨⟨u2, rfl, hv3⟩, hb2⟩; obtain ⟨A4, c4, rfl, _, _, hv4⟩ := hv3.open_
        have Y1 := Lib.hid (X1.out.below hb2)
        have Y2 := Lib.hid hv4
        have HB2 := Lib.hid (HB.out.trans ((HB1.out.trans (hb2.mono HB1.out.size)).mono HB.out.size))
        have T0y := Lib.hid (T0x.out.keep hb2)
        have T1y := Lib.hid (T1x.out.keep hb2)
        have T2y := Lib.hid (T2x.out.keep hb2)
        have s2 := T0y.out.c1
        have s4 := T1y.out.c1))
  all_goals
    rename_i hH
    clear hH s2 s4 r2 r4 p2 p4 T0x T1x T2x T0y T1y T0 T1 T2 HB HB1 X1 hb1 hb2 hv1 hv2 hv3 hv4 HN1 HN2 HW
    go_wp2_with fail
    go_loopg [5, 6] n (fun kq x y wr => ∃ (a : Nat) (Aa Ab : Option Addr) (na nb ca cb : Nat), x = .slice Aa na ca ∧ y = .slice Ab nb cb ∧ Hid (na = (dg a).length) ∧ Hid (nb = (dg kq).length) ∧ Hid (Nat.gcd a kq = G) ∧ na ≤ 100000 ∧ nb ≤ 100000 ∧ Hid (Nv wr (.slice Aa na ca) (dg a)) ∧ Hid (Nv wr (.slice Ab nb cb) (dg kq)) ∧ Hid (Two wr (w.heap.size + 1 + 1) (.bool false) (.slice none 0 0)) ∧ Hid (Below w.heap.size w wr))
    case atStart => exact ⟨m, _, _, _, _, _, _, rfl, rfl, Lib.hid rfl, Lib.hid rfl, HG, HK.out.1, HK.out.2, Y1, Y2, T2y, HB2⟩
    case round =>
      clear HG HK Y1 Y2 T2y HB2
      obtain ⟨a, Aa, Ab, na, nb, ca, cb, rfl, rfl, HA, HBn, HGC, ka, kb, HX, HY, HT, HB⟩ := hrel
      by_cases hA : 2 < na
      · have dA : decide (2 < na) = true := decide_eq_true hA
        rcases Nat.eq_zero_or_pos nb with h0 | h0
        · have hb0 : gk = 0 := dg_eq_nil.1 (List.length_eq_zero_iff.1 (HBn.out.symm.trans h0))
          have HE : Hid (a = G) := Lib.hid (by have := HGC.out; rwa [hb0, Nat.gcd_zero_right] at this)
          have hf := from_calls false _ (dg a) wr HX.out
          rw [iz_false, val_dg, HE.out] at hf
          have HF := Lib.hid hf
          subst h0
          clear hb0 hf
          go_wp2_with fail
          refine (HF.out).mono ?_
          rintro e w6 ⟨⟨v6, rfl, hv6⟩, hb6⟩
          obtain ⟨A6, n6, c6, rfl, hv7⟩ := hv6.open_
          have HT6 := Lib.hid (HT.out.keep hb6)
          have HB6 := Lib.hid (HB.out.trans (hb6.mono HB.out.size))
          have HV6 := Lib.hid hv7
          have t1 := HT6.out.c0
          have t2 := HT6.out.c1
          have t3 := HT6.out.fz 0
          have t4 := HT6.out.fz 1
          obtain ⟨d, hd⟩ : ∃ d, decide (((G : Nat) : Int) < 0) = d := ⟨_, rfl⟩
          rw [hd] at HV6 ⊢
          clear hb6 hv6 hv7 hd HF
          go_wp2_with fail
          exact bodyPost_ret (v := .agg #[.bool d, .slice A6 n6 c6]) (by simp [results, Try.results30, go_sem, t1, t2]) rfl ⟨⟨_, rfl, HV6.out.apart HT6.out (two_other _ _ _ _) (two_size _ _ _ _)⟩, Below.two HB6.out (by omega) _ _⟩
        · have hb0 : gk ≠ 0 := by
            rintro rfl
            have := HBn.out
            rw [dg_zero] at this
            simp at this
            omega
          have z0 : ((nb : Int) == 0) = false := beq_eq_false_iff_ne.2 (by omega)
          have HD := divide_calls _ _ (dg a) (dg gk) wr HX.out HY.out (by rw [← HA.out]; exact ka) (by rw [← HBn.out]; exact kb) (by rw [val_dg]; exact hb0)
          rw [val_dg, val_dg] at HD
          have HDD := Lib.hid HD
          have hr := Nat.mod_lt a (Nat.pos_of_ne_zero hb0)
          have HR := Lib.hid hr
          have kr : (dg (a % gk)).length ≤ 100000 := by
            have := dg_length_le (n := a % gk) (k := (dg gk).length) (Nat.lt_trans hr (le_dg_length (Nat.le_refl _)))
            have := HBn.out
            omega
          have HGG : Hid (Nat.gcd gk (a % gk) = G) := Lib.hid (by rw [gcd_step]; exact HGC.out)
          clear HD hr hb0
          go_wp2_with fail
          refine (HDD.out).mono ?_
          rintro e w3 ⟨⟨vq, vr, rfl, hq, hr⟩, hb3⟩
          obtain ⟨A5, c5, rfl, _, _, _⟩ := hq.open_
          obtain ⟨A6, c6, rfl, _, _, hr2⟩ := hr.open_
          have HY3 := Lib.hid (HY.out.below hb3)
          have HR3 := Lib.hid hr2
          have HT3 := Lib.hid (HT.out.keep hb3)
          have HB3 := Lib.hid (HB.out.trans (hb3.mono HB.out.size))
          clear hq hr hr2 hb3 HDD
          go_wp2_with fail
          go_roundg (a % gk)
          case measure => exact HR.out
          case rel => exact ⟨gk, _, _, _, _, _, _, rfl, rfl, HBn, Lib.hid rfl, HGG, kb, kr, HY3, HR3, HT3, HB3⟩
      · have dA : decide (2 < na) = false := decide_eq_false hA
        by_cases hB : 2 < nb
        · have dB : decide (2 < nb) = true := decide_eq_true hB
          have hb0 : gk ≠ 0 := by
            rintro rfl
            have := HBn.out
            rw [dg_zero] at this
            simp at this
            omega
          have z0 : ((nb : Int) == 0) = false := beq_eq_false_iff_ne.2 (by omega)
          have HD := divide_calls _ _ (dg a) (dg gk) wr HX.out HY.out (by rw [← HA.out]; exact ka) (by rw [← HBn.out]; exact kb) (by rw [val_dg]; exact hb0)
          rw [val_dg, val_dg] at HD
          have HDD := Lib.hid HD
          have hr := Nat.mod_lt a (Nat.pos_of_ne_zero hb0)
          have HR := Lib.hid hr
          have kr : (dg (a % gk)).length ≤ 100000 := by
            have := dg_length_le (n := a % gk) (k := (dg gk).length) (Nat.lt_trans hr (le_dg_length (Nat.le_refl _)))
            have := HBn.out
            omega
          have HGG : Hid (Nat.gcd gk (a % gk) = G) := Lib.hid (by rw [gcd_step]; exact HGC.out)
          clear HD hr hb0
          go_wp2_with fail
          refine (HDD.out).mono ?_
          rintro e w3 ⟨⟨vq, vr, rfl, hq, hr⟩, hb3⟩
          obtain ⟨A5, c5, rfl, _, _, _⟩ := hq.open_
          obtain ⟨A6, c6, rfl, _, _, hr2⟩ := hr.open_
          have HY3 := Lib.hid (HY.out.below hb3)
          have HR3 := Lib.hid hr2
          have HT3 := Lib.hid (HT.out.keep hb3)
          have HB3 := Lib.hid (HB.out.trans (hb3.mono HB.out.size))
          clear hq hr hr2 hb3 HDD
          go_wp2_with fail
          go_roundg (a % gk)
          case measure => exact HR.out
          case rel => exact ⟨gk, _, _, _, _, _, _, rfl, rfl, HBn, Lib.hid rfl, HGG, kb, kr, HY3, HR3, HT3, HB3⟩
        · have dB : decide (2 < nb) = false := decide_eq_false hB
          have HU1 := Lib.hid (uint64_calls _ _ wr HX.out (by rw [val_dg]; exact dg_len_two (by rw [← HA.out]; omega)))
          rw [val_dg] at HU1
          have HU2 := Lib.hid (fun w' (h : Below wr.heap.size wr w') => uint64_calls _ _ w' (HY.out.below h) (by rw [val_dg]; exact dg_len_two (by rw [← HBn.out]; omega)))
          rw [val_dg] at HU2
          have s1 : Hid (a < 18446744073709551616) := Lib.hid (dg_len_two (by rw [← HA.out]; omega))
          have s2 : Hid (gk < 18446744073709551616) := Lib.hid (dg_len_two (by rw [← HBn.out]; omega))
          clear HX HY
          go_wp2_with fail
          refine (HU1.out).mono ?_
          rintro e w3 ⟨rfl, hb3⟩
          have HT3 := Lib.hid (HT.out.keep hb3)
          have HB3 := Lib.hid (HB.out.trans (hb3.mono HB.out.size))
          have HU3 := Lib.hid (HU2.out w3 hb3)
          clear hb3 HU1 HU2
          go_wp2_with fail
          refine (HU3.out).mono ?_
          rintro e w4 ⟨rfl, hb4⟩
          have HT4 := Lib.hid (HT3.out.keep hb4)
          have HB4 := Lib.hid (HB3.out.trans (hb4.mono HB3.out.size))
          clear hb4 HU3 HT3 HB3 HT HB
          go_wp2_with fail
          obtain ⟨a0, ha0⟩ : ∃ a0, a = a0 := ⟨_, rfl⟩
          obtain ⟨k0, hk0⟩ : ∃ k0, gk = k0 := ⟨_, rfl⟩
          go_loopg [9, 11] gk (fun kq u v wr => ∃ a : Nat, u = .int .u64 a ∧ v = .int .u64 kq ∧ Hid (Nat.gcd a kq = G) ∧ Hid (a < 18446744073709551616) ∧ Hid (kq < 18446744073709551616) ∧ Hid (Two wr (w.heap.size + 1 + 1) (.bool false) (.slice none 0 0)) ∧ Hid (Below w.heap.size w wr))
          case atStart => exact ⟨a, rfl, rfl, HGC, s1, s2, HT4, HB4⟩
          case round =>
            clear HGC s1 s2 HT4 HB4 ha0 hk0
            obtain ⟨a, rfl, rfl, HGC, s1, s2, HT, HB⟩ := hrel
            rcases Nat.eq_zero_or_pos gk with h0 | h0
            · subst h0
              have HO := Lib.hid (of_calls a s1.out wr)
              have HE : Hid (a = G) := Lib.hid (by have := HGC.out; rwa [Nat.gcd_zero_right] at this)
              go_wp2_with fail
              refine (HO.out).mono ?_
              rintro e w5 ⟨⟨v5, rfl, hv5⟩, hb5⟩
              have HT5 := Lib.hid (HT.out.keep hb5)
              have HB5 := Lib.hid (HB.out.trans (hb5.mono HB.out.size))
              have hf := from_calls false v5 (dg a) w5 hv5
              rw [iz_false, val_dg, HE.out] at hf
              have HF := Lib.hid hf
              clear hb5 hv5 hf HO HT HB
              go_wp2_with fail
              refine (HF.out).mono ?_
              rintro e w6 ⟨⟨v6, rfl, hv6⟩, hb6⟩
              obtain ⟨A6, n6, c6, rfl, hv7⟩ := hv6.open_
              have HT6 := Lib.hid (HT5.out.keep hb6)
              have HB6 := Lib.hid (HB5.out.trans (hb6.mono HB5.out.size))
              have HV6 := Lib.hid hv7
              have t1 := HT6.out.c0
              have t2 := HT6.out.c1
              have t3 := HT6.out.fz 0
              have t4 := HT6.out.fz 1
              obtain ⟨d, hd⟩ : ∃ d, decide (((G : Nat) : Int) < 0) = d := ⟨_, rfl⟩
              rw [hd] at HV6 ⊢
              clear hb6 hv6 hv7 hd HF HT5 HB5
              go_wp2_with fail
              exact bodyPost_ret (v := .agg #[.bool d, .slice A6 n6 c6]) (by simp [results, Try.results30, go_sem, t1, t2]) rfl ⟨⟨_, rfl, HV6.out.apart HT6.out (two_other _ _ _ _) (two_size _ _ _ _)⟩, Below.two HB6.out (by omega) _ _⟩
            · have z1 : ((gk : Int) == 0) = false := beq_eq_false_iff_ne.2 (by omega)
              have z2 : ((gk : Int) != 0) = true := by simp; omega
              have HGG : Hid (Nat.gcd gk (a % gk) = G) := Lib.hid (by rw [gcd_step]; exact HGC.out)
              have hr := Nat.mod_lt a h0
              have q2 : (a : Int) % (gk : Int) = ((a % gk : Nat) : Int) := (Int.natCast_emod _ _).symm
              have t1 : Int.tmod (a : Int) gk = ((a % gk : Nat) : Int) := by rw [Int.tmod_eq_emod_of_nonneg (by omega)]; exact q2
              have HR := Lib.hid hr
              have s3 : Hid (a % gk < 18446744073709551616) := Lib.hid (Nat.lt_trans hr s2.out)
              have w1 : IntKind.u64.wrap ((a % gk : Nat) : Int) = ((a % gk : Nat) : Int) := wrap_u64_nat _ s3.out
              generalize a % gk = r at *
              have h1 : 1 ≤ (gk : Int) := by omega
              clear hr
              go_wp2_with fail
              go_quiet (fail)
              go_wp2_with fail
              go_roundg r
              case measure => exact HR.out
              case rel => exact ⟨gk, rfl, rfl, HGG, s2, s3, ⟨HT.out.out⟩, Lib.hid (below_drewN HB.out _)⟩

theorem gcd_rd {v1 v2 : Value} {z1 z2 : Int} {k1 k2 : Nat} {w : World} (h1 : Rd w v1 z1 k1) (h2 : Rd w v2 z2 k2) (q1 : k1 ≤ 100000) (q2 : k2 ≤ 100000) :
    Calls Try.prog 30 #[v1, v2] w fun e w' => (∃ v, e = .returned v ∧ In w' v ((Int.gcd z1 z2 : Nat) : Int)) ∧ Below w.heap.size w w' := by
  obtain ⟨g1, l1, h1', rfl, h3⟩ := h1.out
  obtain ⟨g2, l2, h2', rfl, h4⟩ := h2.out
  have := gcd_calls v1 v2 g1 g2 l1 l2 w h1' h2' (by omega) (by omega)
  rwa [← iz_natAbs g1 l1, ← iz_natAbs g2 l2] at this

end Go.Proofs.Ytgmooidagkbheaa
