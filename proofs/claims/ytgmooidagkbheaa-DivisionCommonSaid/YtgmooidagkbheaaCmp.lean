/-
  natural.Cmp compares the numbers.
-/
import Derived.Test.YtgmooidagkbheaaNat1
namespace Go.Proofs.Ytgmooidagkbheaa
open Go.RowKit Go.Proofs.YtgmooidagkbheaaW.PrintWords
set_option linter.unusedVariables false

set_option maxHeartbeats 4000000 in
set_option maxRecDepth 100000 in
theorem ncmp_calls (v1 v2 : Value) (l1 l2 : List Nat) (w : World) (h1 : Nv w v1 l1) (h2 : Nv w v2 l2) :
    Calls Try.prog 55 #[v1, v2] w fun e w' => e = .returned (.int .i64 (cmpN (val l1) (val l2))) ∧ Below w.heap.size w w' := by
  have HT1 := Lib.hid (trim_num v1 l1 w h1)
  have HT2 := Lib.hid (trim_num v2 l2 w h2)
  have hd1 := dig_dg (val l1)
  have hd2 := dig_dg (val l2)
  have HL : Hid ((dg (val l1)).length < (dg (val l2)).length → cmpN (val l1) (val l2) = -1) := Lib.hid fun h => cmpN_lt (cmp_len h)
  have HG : Hid ((dg (val l2)).length < (dg (val l1)).length → cmpN (val l1) (val l2) = 1) := Lib.hid fun h => cmpN_gt (cmp_len h)
  have HE : Hid ((dg (val l1)).length = (dg (val l2)).length → cmpN (val l1) (val l2) = cmpFrom (dg (val l1)) (dg (val l2)) (dg (val l1)).length) := Lib.hid fun h => by
    unfold cmpFrom
    rw [List.take_length, h, List.take_length, val_dg, val_dg]
  have HS := Lib.hid (cmpFrom_succ (dg (val l1)) (dg (val l2)) hd1 hd2)
  have HD1 := Lib.hid (fun j => hd1.getD j)
  have HD2 := Lib.hid (fun j => hd2.getD j)
  clear h1 h2 hd1 hd2
  generalize cmpN (val l1) (val l2) = R at *
  generalize dg (val l1) = l at *
  generalize dg (val l2) = m at *
  go_enter Try.func55, Try.ntmps55
  go_wp2_with fail
  refine (HT1.out).mono ?_
  rintro e w1 ⟨u1, rfl, hv1, rfl⟩
  go_wp2_with fail
  refine (HT2.out).mono ?_
  rintro e w1 ⟨u2, rfl, hv2, rfl⟩
  obtain ⟨A1, c1, rfl, a1, b1, hn1⟩ := hv1.open_
  obtain ⟨A2, c2, rfl, a2, b2, hn2⟩ := hv2.open_
  have HN1 := Lib.hid hn1
  have HN2 := Lib.hid hn2
  have m1 : l.length ≤ 70368744177664 := by unfold LIM at b1; omega
  have m2 : m.length ≤ 70368744177664 := by unfold LIM at b2; omega
  clear hv1 hv2 hn1 hn2 b1 b2
  rcases Nat.lt_trichotomy l.length m.length with hlt | heq | hgt
  · have HR := Lib.hid (HL.out hlt)
    go_wp2_with fail
    go_ret
    exact ⟨by rw [HR.out]; rfl, Below.refl _ _⟩
  · have HR := Lib.hid (HE.out heq)
    have HQ := Lib.hid heq
    have e1 : ¬ l.length < m.length := by omega
    have e2 : ¬ m.length < l.length := by omega
    clear heq
    go_wp2_with fail
    go_loopw [5] (fun v wr => ∃ n : Nat, v = .int .i64 ((n : Int) - 1) ∧ n ≤ l.length ∧ Hid (R = cmpFrom l m n) ∧ Hid (Below w.heap.size w wr)) (fun v _ => (intOf v + 1).toNat)
    case atStart => exact ⟨l.length, rfl, Nat.le_refl _, HR, Below.refl _ _⟩
    case round =>
      obtain ⟨n, rfl, hn, HF, HB⟩ := hrel
      rcases n with _ | n
      · have HR0 : Hid (R = 0) := Lib.hid (by rw [HF.out]; rfl)
        clear HF
        go_wp2_with fail
        go_ret
        exact ⟨by rw [HR0.out]; rfl, HB.out⟩
      · have en : (((n + 1 : Nat) : Int) - 1) = (n : Int) := by omega
        rw [en]
        clear en
        have hnm : n < m.length := by have := HQ.out; omega
        have hnl : n < l.length := by omega
        obtain ⟨b, o, rfl, hlt, hc⟩ := (HN1.out.below HB.out).at_ (by omega)
        obtain ⟨b', o', rfl, hlt', hc'⟩ := (HN2.out.below HB.out).at_ (by omega)
        have hx := hc n hnl
        have hy := hc' n hnm
        have HF2 : Hid (R = if l.getD n 0 < m.getD n 0 then -1 else if m.getD n 0 < l.getD n 0 then 1 else cmpFrom l m n) := Lib.hid (by rw [HF.out]; exact HS.out n hnl hnm)
        clear HF hc hc' hlt hlt'
        generalize l.getD n 0 = x at *
        generalize m.getD n 0 = y at *
        rcases Nat.lt_trichotomy x y with c | c | c
        · have HR1 : Hid (R = -1) := Lib.hid (by rw [HF2.out, if_pos c])
          have d1 : decide (x < y) = true := by simp; omega
          have d3 : x < y := c
          clear HF2 c
          go_wp2_with fail
          go_quiet (fail)
          go_wp2_with fail
          go_ret
          exact ⟨by rw [HR1.out]; rfl, by first | exact below_drewN HB.out _ | exact below_drewN (below_drewN HB.out _) _⟩
        · have HR1 : Hid (R = cmpFrom l m n) := Lib.hid (by rw [HF2.out, if_neg (by omega), if_neg (by omega)])
          obtain rfl := c
          have d1 : decide (x < x) = false := by simp
          have d3 : ¬ x < x := by omega
          clear HF2
          go_wp2_with fail
          go_quiet (fail)
          go_wp2_with fail
          go_quiet (fail)
          go_wp2_with fail
          go_roundw
          case rel => exact ⟨n, rfl, by omega, HR1, by first | exact below_drewN HB.out _ | exact below_drewN (below_drewN HB.out _) _⟩
          case measure => simp [intOf]
        · have HR1 : Hid (R = 1) := Lib.hid (by rw [HF2.out, if_neg (by omega), if_pos c])
          have d1 : decide (x < y) = false := by simp; omega
          have d2 : decide (y < x) = true := by simp; omega
          have d3 : ¬ x < y := by omega
          have d4 : y < x := c
          clear HF2 c
          go_wp2_with fail
          go_quiet (fail)
          go_wp2_with fail
          go_quiet (fail)
          go_wp2_with fail
          go_ret
          exact ⟨by rw [HR1.out]; rfl, by first | exact below_drewN HB.out _ | exact below_drewN (below_drewN HB.out _) _⟩
  · have HR := Lib.hid (HG.out hgt)
    have e1 : ¬ l.length < m.length := by omega
    go_wp2_with fail
    go_ret
    exact ⟨by rw [HR.out]; rfl, Below.refl _ _⟩

end Go.Proofs.Ytgmooidagkbheaa
