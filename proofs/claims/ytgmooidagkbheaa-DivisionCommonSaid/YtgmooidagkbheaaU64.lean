/-
  natural.Uint64 of a number below 2^64.
-/
import Derived.Test.YtgmooidagkbheaaIw
namespace Go.Proofs.Ytgmooidagkbheaa
open Go.RowKit Go.Proofs.YtgmooidagkbheaaW.PrintWords
set_option linter.unusedVariables false

theorem dg_one {n x : Nat} (h : dg n = [x]) : n = x ∧ x < 4294967296 := by
  have e := val_dg n
  have d := dig_dg n
  rw [h] at e d
  refine ⟨?_, d x (by simp)⟩
  rw [← e]
  simp [val]
theorem dg_two {n x y : Nat} (h : dg n = [x, y]) : n = y * 4294967296 + x ∧ x < 4294967296 ∧ y < 4294967296 := by
  have e := val_dg n
  have d := dig_dg n
  rw [h] at e d
  refine ⟨?_, d x (by simp), d y (by simp)⟩
  rw [← e]
  simp only [val]
  omega

set_option maxHeartbeats 1000000 in
set_option maxRecDepth 100000 in
theorem uint64_calls (v : Value) (l : List Nat) (w : World) (h : Nv w v l) (hn : val l < 18446744073709551616) :
    Calls Try.prog 61 #[v] w fun e w' => e = .returned (.tuple #[.int .u64 (val l : Nat), .bool true]) ∧ Below w.heap.size w w' := by
  have HT := Lib.hid (trim_num v l w h)
  have hl : (dg (val l)).length ≤ 2 := dg_length_le (by simpa using hn)
  clear h hn
  generalize val l = n at *
  match hd : dg n, hl with
  | [], _ =>
    have HE : Hid (n = 0) := Lib.hid (dg_eq_nil.1 hd)
    rw [hd] at HT
    clear hl hd
    go_enter Try.func61, Try.ntmps61
    go_wp2_with fail
    refine (HT.out).mono ?_
    rintro e w1 ⟨u1, rfl, hv1, rfl⟩
    obtain ⟨A1, c1, rfl, a1, b1, hn1⟩ := hv1.open_
    clear hv1 a1 b1 hn1
    go_wp2_with fail
    go_ret2
    exact ⟨by rw [HE.out]; rfl, Below.refl _ _⟩
  | [x], _ =>
    obtain ⟨e1, e2⟩ := dg_one hd
    have HE := Lib.hid e1
    rw [hd] at HT
    have w1 : IntKind.u64.wrap (x : Int) = (x : Int) := wrap_u64_nat x (by omega)
    clear hl hd e1
    go_enter Try.func61, Try.ntmps61
    go_wp2_with fail
    refine (HT.out).mono ?_
    rintro e w1 ⟨u1, rfl, hv1, rfl⟩
    obtain ⟨A1, c1, rfl, a1, b1, hn1⟩ := hv1.open_
    obtain ⟨b, o, rfl, t1, hc⟩ := hn1.at_ (by simp)
    have hx := hc 0 (by simp)
    rw [Nat.add_zero] at hx
    replace hx : w.cell? ⟨b, o, none⟩ = some (.int .u32 (x : Int)) := hx
    clear hv1 a1 b1 hn1 hc t1
    go_wp2_with fail
    go_ret2
    exact ⟨by rw [HE.out]; rfl, Below.refl _ _⟩
  | [x, y], _ =>
    obtain ⟨e1, e2, e3⟩ := dg_two hd
    have HE := Lib.hid e1
    rw [hd] at HT
    have w1 : IntKind.u64.wrap (x : Int) = (x : Int) := wrap_u64_nat x (by omega)
    have w2 : IntKind.u64.wrap (y : Int) = (y : Int) := wrap_u64_nat y (by omega)
    have HO := Lib.hid (or_add y x e3 e2)
    clear hl hd e1
    go_enter Try.func61, Try.ntmps61
    go_wp2_with fail
    refine (HT.out).mono ?_
    rintro e w1 ⟨u1, rfl, hv1, rfl⟩
    obtain ⟨A1, c1, rfl, a1, b1, hn1⟩ := hv1.open_
    obtain ⟨b, o, rfl, t1, hc⟩ := hn1.at_ (by simp)
    have hx := hc 0 (by simp)
    have hy := hc 1 (by simp)
    rw [Nat.add_zero] at hx
    replace hx : w.cell? ⟨b, o, none⟩ = some (.int .u32 (x : Int)) := hx
    replace hy : w.cell? ⟨b, o + 1, none⟩ = some (.int .u32 (y : Int)) := hy
    have ho := HO.out
    clear hv1 a1 b1 hn1 hc t1
    go_wp2_with fail
    go_quiet (fail)
    go_wp2_with fail
    go_ret2
    exact ⟨by rw [HE.out, Int.natCast_add, Int.natCast_mul]; rfl, below_drewN (Below.refl _ _) _⟩

end Go.Proofs.Ytgmooidagkbheaa
