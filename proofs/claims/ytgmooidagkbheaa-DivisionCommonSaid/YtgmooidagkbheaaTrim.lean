/-
  natural.trim: the digits without leading zeros, in the same memory.
-/
import Derived.Test.YtgmooidagkbheaaNv
namespace Go.Proofs.Ytgmooidagkbheaa
open Go.RowKit Go.Proofs.YtgmooidagkbheaaW.PrintWords
set_option linter.unusedVariables false

theorem infoU32 : (Try.prog.info? 85).map (fun i => (i.zero, i.size, i.bytes)) = some (some (.int .u32 0), 1, 4) := by kernel_rfl

set_option maxHeartbeats 1000000 in
theorem trim_raw (A : Option Addr) (c : Nat) (l : List Nat) (w : World) (h : Nv w (.slice A l.length c) l) (h1 : l.length ≤ c) (h2 : c ≤ LIM) :
    Calls Try.prog 83 #[.slice A l.length c] w fun e w' => e = .returned (.slice A (tn l l.length) c) ∧ w = w' := by
  have H := Lib.hid h
  have hlm : l.length ≤ 70368744177664 := by unfold LIM at h2; omega
  have hl := tn_le l l.length
  have HD := Lib.hid (getD_lt h.digits)
  clear h
  go_enter Try.func83, Try.ntmps83
  go_wp2_with fail
  go_loop [3] (fun v => ∃ n : Nat, v = .int .i64 n ∧ n ≤ l.length ∧ Hid (tn l l.length = tn l n)) (fun v => (intOf v).toNat)
  case atStart => exact ⟨l.length, rfl, Nat.le_refl _, Lib.hid rfl⟩
  case round =>
    obtain ⟨n, rfl, hn, HE⟩ := hrel
    obtain ⟨i, hi, hz, hsz, hby⟩ := info_parts infoU32
    rcases n with _ | n
    · have HE2 : Hid (tn l l.length = 0) := HE
      have hcut := cut_to (P := Try.prog) 23 85 .i64 Try.underlying23 hi A l.length c 0 (by omega) (by omega) h1
      clear hi hz hsz hby HE
      go_wp2_with fail
      go_ret
      exact ⟨by rw [HE2.out]; rfl, rfl⟩
    · obtain ⟨b, o, rfl, hlt, hc⟩ := H.out.at_ (by omega)
      have hcn := hc n (by omega)
      have hd := HD.out n
      by_cases h0 : l.getD n 0 = 0
      · have HE2 : Hid (tn l l.length = tn l n) := Lib.hid (by rw [HE.out, tn_succ, if_pos h0])
        rw [h0] at hcn
        clear hi hz hsz hby HE h0 hd hc
        go_wp2_with fail
        go_round
        case rel => exact ⟨n, rfl, by omega, HE2⟩
        case measure => simp [intOf]
      · have HE2 : Hid (tn l l.length = n + 1) := Lib.hid (by rw [HE.out, tn_succ, if_neg h0])
        have hcut := cut_to (P := Try.prog) 23 85 .i64 Try.underlying23 hi (some ⟨b, o, none⟩) l.length c ((n + 1 : Nat) : Int) (by omega) (by omega) h1
        rw [show ((n + 1 : Nat) : Int) = (n : Int) + 1 from by omega, show ((n : Int) + 1).toNat = n + 1 from by omega] at hcut
        obtain ⟨x, ex⟩ : ∃ x, l.getD n 0 = x := ⟨_, rfl⟩
        rw [ex] at h0 hcn hd
        have hx : ((x : Int) == 0) = false := by simp; omega
        clear hi hz hsz hby HE h0 hc ex
        go_wp2_with fail
        go_ret
        exact ⟨by rw [HE2.out]; rfl, rfl⟩

/-- trim: what is left reads as the digits without leading zeros. -/
theorem trim_calls (v : Value) (l : List Nat) (w : World) (h : Nv w v l) :
    Calls Try.prog 83 #[v] w fun e w' => ∃ v', e = .returned v' ∧ Nv w v' (trimL l) ∧ w = w' := by
  obtain ⟨A, c, rfl, h1, h2, hv⟩ := h.open_
  refine (trim_raw A c l w hv h1 h2).mono fun e w' h => ?_
  exact ⟨_, h.1, hv.take _ (tn_le l l.length), h.2⟩

end Go.Proofs.Ytgmooidagkbheaa
