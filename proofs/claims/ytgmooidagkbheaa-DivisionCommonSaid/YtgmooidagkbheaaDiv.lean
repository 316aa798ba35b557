/-
  division.divide: quotient and remainder.
-/
import Derived.Test.YtgmooidagkbheaaKn
import Derived.StillTailTactics
namespace Go.Proofs.Ytgmooidagkbheaa
open Go.RowKit Go.Proofs.YtgmooidagkbheaaW.PrintWords
set_option linter.unusedVariables false

set_option maxHeartbeats 4000000 in
set_option maxRecDepth 100000 in
theorem divide_less (va vb : Value) (la lb : List Nat) (w : World) (h1 : Nv w va la) (h2 : Nv w vb lb) (hlt : val la < val lb) :
    Calls Try.prog 49 #[va, vb] w fun e w' => (∃ vq vr, e = .returned (.tuple #[vq, vr]) ∧ Nv w' vq (dg (val la / val lb)) ∧ Nv w' vr (dg (val la % val lb))) ∧ Below w.heap.size w w' := by
  have HN := Lib.hid (normal_num vb lb w h2)
  have HA := Lib.hid h1
  have HQ : Hid (val la / val lb = 0) := Lib.hid (Nat.div_eq_of_lt hlt)
  have HR : Hid (val la % val lb = val la) := Lib.hid (Nat.mod_eq_of_lt hlt)
  have HC : Hid (cmpN (val la) (val (dg (val lb))) = -1) := Lib.hid (by rw [val_dg]; exact cmpN_lt hlt)
  clear h1 h2 hlt
  go_enter Try.func49, Try.ntmps49
  go_wp2_with fail
  go_step3
  go_wp2_with fail
  refine (HN.out).mono ?_
  rintro e w1 ⟨⟨v1, rfl, hv1⟩, hb1⟩
  have HC2 := Lib.hid (ncmp_calls va v1 la _ w1 (HA.out.below hb1) hv1)
  rw [HC.out] at HC2
  have HB1 := Lib.hid hb1
  clear hv1 hb1
  go_wp2_with fail
  refine (HC2.out).mono ?_
  rintro e w2 ⟨rfl, hb2⟩
  have HB2 := Lib.hid (HB1.out.trans (hb2.mono HB1.out.size))
  clear hb2
  have HN2 := Lib.hid (normal_num va la w2 (HA.out.below HB2.out))
  go_wp2_with fail
  refine (HN2.out).mono ?_
  rintro e w3 ⟨⟨v3, rfl, hv3⟩, hb3⟩
  have HV3 := Lib.hid hv3
  have HB3 := Lib.hid (HB2.out.trans (hb3.mono HB2.out.size))
  clear hv3 hb3
  go_wp2_with fail
  try rw [Exit.noGoto_ret]
  go_ret2
  exact ⟨⟨_, _, rfl, by rw [HQ.out, dg_zero]; exact Nv.nil _, by rw [HR.out]; exact HV3.out⟩, HB3.out⟩

set_option maxHeartbeats 4000000 in
set_option maxRecDepth 100000 in
theorem divide_one (va vb : Value) (la lb : List Nat) (w : World) (h1 : Nv w va la) (h2 : Nv w vb lb) (g1 : la.length ≤ 100000) (hle : val lb ≤ val la) (hb0 : val lb ≠ 0) (hone : (dg (val lb)).length = 1) :
    Calls Try.prog 49 #[va, vb] w fun e w' => (∃ vq vr, e = .returned (.tuple #[vq, vr]) ∧ Nv w' vq (dg (val la / val lb)) ∧ Nv w' vr (dg (val la % val lb))) ∧ Below w.heap.size w w' := by
  have HN := Lib.hid (normal_num vb lb w h2)
  have HA := Lib.hid h1
  have hd : (dg (val lb)).getD 0 0 = val lb := by
    have e := val_dg (val lb)
    match hq : dg (val lb), hone with
    | [x], _ =>
      rw [hq] at e
      simpa [val] using e
  have hb2 : val lb < 4294967296 := by
    have := le_dg_length (Nat.le_of_eq hone)
    simpa using this
  have HC : Hid (0 ≤ cmpN (val la) (val (dg (val lb)))) := Lib.hid (by
    rw [val_dg]
    unfold cmpN
    rw [if_neg (by omega)]
    split <;> omega)
  have HD := Lib.hid (fun w (h : Nv w va la) => divsmall_calls va la (val lb) w h (by omega) (by omega) hb2)
  have hr := Nat.mod_lt (val la) (show 0 < val lb by omega)
  have HO := Lib.hid (fun w => of_calls (val la % val lb) (by omega) w)
  have wr1 : IntKind.u64.wrap ((val la % val lb : Nat) : Int) = ((val la % val lb : Nat) : Int) := wrap_u64_nat _ (by omega)
  generalize val la / val lb = q at *
  generalize val la % val lb = r at *
  obtain ⟨c, hc⟩ : ∃ c, cmpN (val la) (val (dg (val lb))) = c := ⟨_, rfl⟩
  rw [hc] at HC
  have hc0 : ¬ (c < 0) := by have := HC.out; omega
  have HCC := Lib.hid hc
  have HG := Lib.hid hd
  have HL := Lib.hid hone
  clear h1 h2 hle hb2 hr hc hd hone g1
  go_enter Try.func49, Try.ntmps49
  go_wp2_with fail
  go_step3
  go_wp2_with fail
  refine (HN.out).mono ?_
  rintro e w1 ⟨⟨v1, rfl, hv1⟩, hb1⟩
  have HC2 := Lib.hid (ncmp_calls va v1 la _ w1 (HA.out.below hb1) hv1)
  rw [HCC.out] at HC2
  have HB1 := Lib.hid hb1
  obtain ⟨A1, c1, rfl, a1, b1, hn1⟩ := hv1.open_
  rw [HL.out] at hn1 a1
  have HV1 := Lib.hid hv1
  clear hv1 hb1 b1 a1 hn1
  rw [HL.out] at HC2 HV1 ⊢
  go_wp2_with fail
  refine (HC2.out).mono ?_
  rintro e w2 ⟨rfl, hb2⟩
  obtain ⟨b, o, rfl, t1, hcell⟩ := Nv.at_ (A := A1) (c := c1) (l := dg (val lb)) (w := w2) (by rw [HL.out]; exact HV1.out.below hb2) (by rw [HL.out]; decide)
  have hx := hcell 0 (by rw [HL.out]; decide)
  rw [HG.out, Nat.add_zero] at hx
  have HB2 := Lib.hid (HB1.out.trans (hb2.mono HB1.out.size))
  have HD2 := Lib.hid (HD.out w2 (HA.out.below HB2.out))
  clear hb2 hcell t1 HG
  generalize val lb = d at *
  go_wp2_with fail
  refine (HD2.out).mono ?_
  rintro e w3 ⟨⟨v3, rfl, hv3⟩, hb3⟩
  have HB3 := Lib.hid (HB2.out.trans (hb3.mono HB2.out.size))
  have HV3 := Lib.hid hv3
  clear hv3 hb3
  go_wp2_with fail
  refine (HO.out w3).mono ?_
  rintro e w4 ⟨⟨v4, rfl, hv4⟩, hb4⟩
  have HB4 := Lib.hid (HB3.out.trans (hb4.mono HB3.out.size))
  have HV4 := Lib.hid hv4
  have HV3b := Lib.hid (HV3.out.below hb4)
  clear hv4 hb4
  go_wp2_with fail
  try rw [Exit.noGoto_ret]
  go_ret2
  exact ⟨⟨_, _, rfl, HV3b.out, HV4.out⟩, HB4.out⟩

end Go.Proofs.Ytgmooidagkbheaa
