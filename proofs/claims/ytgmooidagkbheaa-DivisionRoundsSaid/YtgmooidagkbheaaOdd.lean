/-
  natural.Bit at 0, integer.IsOdd.
-/
import Derived.Test.YtgmooidagkbheaaMd
namespace Go.Proofs.Ytgmooidagkbheaa
open Go.RowKit Go.Proofs.YtgmooidagkbheaaW.PrintWords
set_option linter.unusedVariables false

theorem bits_and1 (a : Nat) (ha : a < 4294967296) : bits .and .u32 (a : Int) 1 = ((a % 2 : Nat) : Int) := by
  have h1 : (BitVec.ofInt 32 (a : Int)).toNat = a := by
    rw [BitVec.ofInt_natCast, BitVec.toNat_ofNat]; exact Nat.mod_eq_of_lt (by omega)
  have h2 : (BitVec.ofInt 32 (1 : Int)).toNat = 1 := by rfl
  show IntKind.u32.wrap ((BitVec.ofInt 32 (a : Int) &&& BitVec.ofInt 32 (1 : Int)).toNat : Int) = _
  rw [BitVec.toNat_and, h1, h2, Nat.and_one_is_mod]
  simp [IntKind.wrap, IntKind.signed, IntKind.bits]
  omega
theorem val_odd {l : List Nat} (h : 0 < l.length) : val l % 2 = l.getD 0 0 % 2 := by
  match l, h with
  | x :: l, _ =>
    show (x + 4294967296 * val l) % 2 = x % 2
    omega

set_option maxHeartbeats 1000000 in
set_option maxRecDepth 100000 in
theorem bit0_calls (v : Value) (l : List Nat) (w : World) (h : Nv w v l) :
    Calls Try.prog 64 #[v, .int .i64 0] w fun e w' => e = .returned (.int .i64 ((val l % 2 : Nat) : Int)) ∧ w = w' := by
  obtain ⟨A, c, rfl, h1, h2, hn⟩ := h.open_
  have HN := Lib.hid hn
  have HD := Lib.hid hn.digits
  have hm : l.length ≤ 70368744177664 := by unfold LIM at h2; omega
  clear h hn h2
  obtain ⟨p, hp⟩ : ∃ p, val l % 2 = p := ⟨_, rfl⟩
  have HP := Lib.hid hp
  obtain ⟨n, hn⟩ : ∃ n, l.length = n := ⟨_, rfl⟩
  have HL := Lib.hid hn
  rw [hp]
  rw [hn] at h1 hm HN ⊢
  clear hp hn
  rcases Nat.eq_zero_or_pos n with h0 | h0
  · have HE : Hid (p = 0) := Lib.hid (by rw [← HP.out, List.eq_nil_of_length_eq_zero (HL.out.trans h0)]; rfl)
    subst h0
    go_enter Try.func64, Try.ntmps64
    go_wp2_with fail
    go_ret
    exact ⟨by rw [HE.out]; rfl, rfl⟩
  · obtain ⟨b, o, rfl, hlt, hc⟩ := Nv.at_ (A := A) (c := c) (l := l) (w := w) (by rw [HL.out]; exact HN.out) (by rw [HL.out]; exact h0)
    have hx := hc 0 (by rw [HL.out]; exact h0)
    rw [Nat.add_zero] at hx
    have hd := getD_lt HD.out 0
    have HE : Hid (p = l.getD 0 0 % 2) := Lib.hid (by rw [← HP.out]; exact val_odd (by rw [HL.out]; exact h0))
    have HA := Lib.hid (bits_and1 (l.getD 0 0) hd)
    clear hc
    generalize l.getD 0 0 = x at *
    have h3 : ¬ n ≤ 0 := by omega
    have h4 : decide (n ≤ 0) = false := decide_eq_false h3
    have ha := HA.out
    go_enter Try.func64, Try.ntmps64
    go_wp2_with fail
    go_ret
    exact ⟨by rw [HE.out]; rfl, rfl⟩

set_option maxHeartbeats 1000000 in
set_option maxRecDepth 100000 in
theorem isodd_rd {v : Value} {z : Int} {k : Nat} {w : World} {b : Bool} (h : Rd w v z k) (e : decide (z % 2 = 1) = b) :
    Calls Try.prog 38 #[v] w fun e w' => e = .returned (.bool b) ∧ Below w.heap.size w w' := by
  obtain ⟨g, l, h1, rfl, _⟩ := h.out
  obtain ⟨A, c, rfl, _, _, hs⟩ := h1.open_
  have HBX := Lib.hid (boxed w (.bool g) (.slice A l.length c))
  have HC := Lib.hid (bit0_calls _ l _ (hs.below HBX.out))
  have HE : Hid ((((val l % 2 : Nat) : Int) == 1) = b) := Lib.hid (by
    rw [← e]
    have := iz_natAbs g l
    rw [Bool.eq_iff_iff]
    simp only [beq_iff_eq, decide_eq_true_eq]
    generalize iz g l = z at *
    omega)
  clear h h1 hs e
  generalize val l % 2 = p at *
  go_enter Try.func38, Try.ntmps38
  go_wp2_with fail
  refine (HC.out).mono ?_
  rintro e w1 ⟨rfl, rfl⟩
  go_wp2_with fail
  go_ret
  exact ⟨by rw [← HE.out]; rfl, HBX.out⟩

end Go.Proofs.Ytgmooidagkbheaa
