/-
  Contracts of package integer and of division.Quo for whatever reads as a number.
-/
import Derived.Test.YtgmooidagkbheaaQo
namespace Go.Proofs.Ytgmooidagkbheaa
open Go.RowKit Go.Proofs.YtgmooidagkbheaaW.PrintWords
set_option linter.unusedVariables false

/-- The value v reads as z, from at most k digits. -/
structure Rd (w : World) (v : Value) (z : Int) (k : Nat) : Prop where mk ::
  out : ∃ g l, Iv w v g l ∧ iz g l = z ∧ l.length ≤ k
theorem Rd.below {w w' : World} {v : Value} {z : Int} {k : Nat} (h : Rd w v z k) (hb : Below w.heap.size w w') : Rd w' v z k := by
  obtain ⟨g, l, h1, h2, h3⟩ := h.out
  exact ⟨g, l, h1.below hb, h2, h3⟩
theorem Rd.drew {w : World} {v : Value} {z : Int} {k : Nat} (h : Rd w v z k) : Rd w.drew v z k := h.below (below_drewN (Below.refl _ _) 1)
theorem Rd.mono {w : World} {v : Value} {z : Int} {k k' : Nat} (h : Rd w v z k) (hk : k ≤ k') : Rd w v z k' := by
  obtain ⟨g, l, h1, h2, h3⟩ := h.out
  exact ⟨g, l, h1, h2, by omega⟩
theorem Rd.stored {w : World} {v : Value} {z : Int} {k : Nat} {B : Nat} {x : Bool} {A : Option Addr} {n c : Nat} (h : Rd w v z k) (ht : Two w B (.bool x) (.slice A n c)) (u u' : Value) : Rd ((w.setCell ⟨B, 0, none⟩ u).setCell ⟨B, 1, none⟩ u') v z k := by
  obtain ⟨g, l, h1, h2, h3⟩ := h.out
  exact ⟨g, l, h1.stored ht u u', h2, h3⟩
theorem Rd.open_ {w : World} {v : Value} {z : Int} {k : Nat} (h : Rd w v z k) : ∃ g A n c, v = .agg #[.bool g, .slice A n c] ∧ Rd w (.agg #[.bool g, .slice A n c]) z k := by
  obtain ⟨g, l, h1, h2, h3⟩ := h.out
  obtain ⟨A, c, rfl, _, _, h4⟩ := h1.open_
  exact ⟨g, A, _, c, rfl, ⟨g, l, h1, h2, h3⟩⟩
theorem Iv.rd {w : World} {v : Value} {g : Bool} {l : List Nat} (h : Iv w v g l) {k : Nat} (hk : l.length ≤ k) : Rd w v (iz g l) k := ⟨g, l, h, rfl, hk⟩
theorem In.rd {w : World} {v : Value} {z : Int} (h : In w v z) {k : Nat} (hk : z.natAbs < 4294967296 ^ k) : Rd w v z k :=
  ⟨_, _, h.iv, iz_dg z, dg_length_le hk⟩
theorem Rd.size {w : World} {v : Value} {z : Int} {k : Nat} (h : Rd w v z k) : z.natAbs < 4294967296 ^ k := by
  obtain ⟨g, l, h1, h2, h3⟩ := h.out
  rw [← h2, iz_natAbs]
  obtain ⟨s, _, hs⟩ := h1.out
  exact Nat.lt_of_lt_of_le (val_lt hs.digits) (Nat.pow_le_pow_right (by decide) h3)

theorem Two.made3 (w : World) (o o' : Obj) (a b : Value) : Two (((w.alloc o).alloc o').alloc (.cells #[a, b] 25)) (w.heap.size + 1 + 1) a b := by
  have := Two.made2 (w.alloc o) o' a b
  simpa using this
/-- Sizes, by a name. -/
def Sz (k : Nat) (z : Int) : Prop := z.natAbs < 4294967296 ^ k
theorem Sz.mono {j k : Nat} {z : Int} (h : Sz j z) (hk : j ≤ k) : Sz k z := Nat.lt_of_lt_of_le h (Nat.pow_le_pow_right (by decide) hk)
theorem Sz.neg {k : Nat} {z : Int} (h : Sz k z) : Sz k (-z) := by unfold Sz at *; rw [Int.natAbs_neg]; exact h
theorem Sz.abs {k : Nat} {z : Int} (h : Sz k z) : Sz k (z.natAbs : Int) := by unfold Sz at *; rw [Int.natAbs_natCast]; exact h
theorem Sz.le {k : Nat} {x y : Int} (h : Sz k x) (hl : y.natAbs ≤ x.natAbs) : Sz k y := Nat.lt_of_le_of_lt hl h
theorem Sz.mul {j k : Nat} {x y : Int} (h : Sz j x) (h' : Sz k y) : Sz (j + k) (x * y) := by
  unfold Sz at *
  rw [Int.natAbs_mul, Nat.pow_add]
  exact Nat.mul_lt_mul'' h h'
theorem Sz.add {k : Nat} {x y : Int} (h : Sz k x) (h' : Sz k y) : Sz (k + 1) (x + y) := by
  unfold Sz at *
  rw [Nat.pow_succ]
  have := Int.natAbs_add_le x y
  omega
theorem Sz.sub {k : Nat} {x y : Int} (h : Sz k x) (h' : Sz k y) : Sz (k + 1) (x - y) := by
  rw [Int.sub_eq_add_neg]
  exact h.add h'.neg
theorem Sz.small {z : Int} (h : z.natAbs < 4294967296) : Sz 1 z := by unfold Sz; simpa using h
theorem Sz.tdiv {k : Nat} {x y : Int} (h : Sz k x) : Sz k (Int.tdiv x y) := h.le (by rw [Int.natAbs_tdiv]; exact Nat.div_le_self _ _)
theorem Sz.tmod {k : Nat} {x y : Int} (h : Sz k x) : Sz k (Int.tmod x y) := h.le (by rw [Int.natAbs_tmod]; exact Nat.mod_le _ _)
theorem Sz.tmod' {k : Nat} {x y : Int} (h : Sz k y) (hy : y ≠ 0) : Sz k (Int.tmod x y) := h.le (by rw [Int.natAbs_tmod]; exact Nat.le_of_lt (Nat.mod_lt _ (by omega)))
theorem Sz.ite {k : Nat} {c : Prop} [Decidable c] {x y : Int} (h : Sz k x) (h' : Sz k y) : Sz k (if c then x else y) := by split <;> assumption
theorem Rd.sz {w : World} {v : Value} {z : Int} {k : Nat} (h : Rd w v z k) : Sz k z := h.size
theorem In.rds {w : World} {v : Value} {z : Int} (h : In w v z) {k : Nat} (hk : Sz k z) : Rd w v z k := h.rd hk

theorem sign_rd {v : Value} {z : Int} {k : Nat} {w : World} (h : Rd w v z k) : Calls Try.prog 24 #[v] w fun e w' => e = .returned (.int .i64 (Int.sign z)) ∧ Below w.heap.size w w' := by
  obtain ⟨g, l, h1, rfl, h3⟩ := h.out
  exact sign_calls v g l w h1
theorem iszero_rd {v : Value} {z : Int} {k : Nat} {w : World} (h : Rd w v z k) : Calls Try.prog 48 #[v] w fun e w' => e = .returned (.bool (z == 0)) ∧ Below w.heap.size w w' := by
  obtain ⟨g, l, h1, rfl, h3⟩ := h.out
  exact iszero_calls v g l w h1
theorem icmp_rd {v v' : Value} {z z' : Int} {k k' : Nat} {w : World} (h : Rd w v z k) (h' : Rd w v' z' k') : Calls Try.prog 25 #[v, v'] w fun e w' => e = .returned (.int .i64 (cmpZ z z')) ∧ Below w.heap.size w w' := by
  obtain ⟨g, l, h1, rfl, h3⟩ := h.out
  obtain ⟨g', l', h1', rfl, h3'⟩ := h'.out
  exact icmp_calls v v' g g' l l' w h1 h1'
theorem isame_rd {v v' : Value} {z z' : Int} {k k' : Nat} {w : World} (h : Rd w v z k) (h' : Rd w v' z' k') : Calls Try.prog 27 #[v, v'] w fun e w' => e = .returned (.bool (z == z')) ∧ Below w.heap.size w w' := by
  obtain ⟨g, l, h1, rfl, h3⟩ := h.out
  obtain ⟨g', l', h1', rfl, h3'⟩ := h'.out
  exact isame_calls v v' g g' l l' w h1 h1'
theorem inormal_rd {v : Value} {z : Int} {k : Nat} {w : World} (h : Rd w v z k) : Calls Try.prog 65 #[v] w fun e w' => (∃ v, e = .returned v ∧ In w' v z) ∧ Below w.heap.size w w' := by
  obtain ⟨g, l, h1, rfl, h3⟩ := h.out
  exact inormal_calls v g l w h1
theorem ineg_rd {v : Value} {z : Int} {k : Nat} {w : World} (h : Rd w v z k) : Calls Try.prog 32 #[v] w fun e w' => (∃ v, e = .returned v ∧ In w' v (-z)) ∧ Below w.heap.size w w' := by
  obtain ⟨g, l, h1, rfl, h3⟩ := h.out
  exact ineg_calls v g l w h1
theorem iabs_rd {v : Value} {z : Int} {k : Nat} {w : World} (h : Rd w v z k) : Calls Try.prog 26 #[v] w fun e w' => (∃ v, e = .returned v ∧ In w' v (z.natAbs : Int)) ∧ Below w.heap.size w w' := by
  obtain ⟨g, l, h1, rfl, h3⟩ := h.out
  exact iabs_calls v g l w h1
theorem iadd_rd {v v' : Value} {z z' : Int} {k k' : Nat} {w : World} (h : Rd w v z k) (h' : Rd w v' z' k') (q : k ≤ 1000000) (q' : k' ≤ 1000000) : Calls Try.prog 28 #[v, v'] w fun e w' => (∃ v, e = .returned v ∧ In w' v (z + z')) ∧ Below w.heap.size w w' := by
  obtain ⟨g, l, h1, rfl, h3⟩ := h.out
  obtain ⟨g', l', h1', rfl, h3'⟩ := h'.out
  exact iadd_calls v v' g g' l l' w h1 h1' (by omega) (by omega)
theorem isub_rd {v v' : Value} {z z' : Int} {k k' : Nat} {w : World} (h : Rd w v z k) (h' : Rd w v' z' k') (q : k ≤ 1000000) (q' : k' ≤ 1000000) : Calls Try.prog 37 #[v, v'] w fun e w' => (∃ v, e = .returned v ∧ In w' v (z - z')) ∧ Below w.heap.size w w' := by
  obtain ⟨g, l, h1, rfl, h3⟩ := h.out
  obtain ⟨g', l', h1', rfl, h3'⟩ := h'.out
  exact isub_calls v v' g g' l l' w h1 h1' (by omega) (by omega)
theorem imul_rd {v v' : Value} {z z' : Int} {k k' : Nat} {w : World} (h : Rd w v z k) (h' : Rd w v' z' k') (q : k ≤ 1000000) (q' : k' ≤ 1000000) (q'' : k ≤ 47 ∨ k' ≤ 47) : Calls Try.prog 29 #[v, v'] w fun e w' => (∃ v, e = .returned v ∧ In w' v (z * z')) ∧ Below w.heap.size w w' := by
  obtain ⟨g, l, h1, rfl, h3⟩ := h.out
  obtain ⟨g', l', h1', rfl, h3'⟩ := h'.out
  obtain ⟨s, _, hs⟩ := h1.out
  obtain ⟨s', _, hs'⟩ := h1'.out
  have d1 := dg_len_le hs.digits
  have d2 := dg_len_le hs'.digits
  exact imul_calls v v' g g' l l' w h1 h1' (by omega) (by omega) (by omega)
theorem ishl_rd {v : Value} {z : Int} {k : Nat} {w : World} (n : Nat) (h : Rd w v z k) (q : k ≤ 1000000) (hn : n ≤ 16777216) : Calls Try.prog 63 #[v, .int .i64 n] w fun e w' => (∃ v, e = .returned v ∧ In w' v (z * 2 ^ n)) ∧ Below w.heap.size w w' := by
  obtain ⟨g, l, h1, rfl, h3⟩ := h.out
  exact ishl_calls v g l n w h1 (by omega) hn
theorem quo0_rd {v v' : Value} {z : Int} {k k' : Nat} {w : World} (h : Rd w v z k) (h' : Rd w v' 0 k') :
    Calls Try.prog 13 #[v, v'] w fun e w' => e = .returned (.tuple #[.agg #[.bool false, .slice none 0 0], .agg #[.bool false, .slice none 0 0], .int .i64 2]) ∧ Below w.heap.size w w' := by
  obtain ⟨g, l, h1, rfl, h3⟩ := h.out
  obtain ⟨g', l', h1', e, h3'⟩ := h'.out
  exact quo_zero v v' g g' l l' w h1 h1' e
theorem quo_rd {v v' : Value} {z z' : Int} {k k' : Nat} {w : World} (h : Rd w v z k) (h' : Rd w v' z' k') (q : k ≤ 100000) (q' : k' ≤ 100000) (hz : z' ≠ 0) :
    Calls Try.prog 13 #[v, v'] w fun e w' => (∃ q r, e = .returned (.tuple #[q, r, .int .i64 0]) ∧ In w' q (Int.tdiv z z') ∧ In w' r (Int.tmod z z')) ∧ Below w.heap.size w w' := by
  obtain ⟨g, l, h1, rfl, h3⟩ := h.out
  obtain ⟨g', l', h1', rfl, h3'⟩ := h'.out
  exact quo_calls v v' g g' l l' w h1 h1' (by omega) (by omega) hz

end Go.Proofs.Ytgmooidagkbheaa
