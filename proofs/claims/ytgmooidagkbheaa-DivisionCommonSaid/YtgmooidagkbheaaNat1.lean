/-
  natural.Of, IsZero, Uint64, Cmp: what they answer as numbers.
-/
import Derived.Test.YtgmooidagkbheaaRow
import Derived.Test.YtgmooidagkbheaaDg
namespace Go.Proofs.Ytgmooidagkbheaa
open Go.RowKit Go.Proofs.YtgmooidagkbheaaW.PrintWords
set_option linter.unusedVariables false

theorem trim_num (v : Value) (l : List Nat) (w : World) (h : Nv w v l) :
    Calls Try.prog 83 #[v] w fun e w' => ∃ v', e = .returned v' ∧ Nv w v' (dg (val l)) ∧ w = w' := by
  have := trim_calls v l w h
  rw [trimL_dg h.digits] at this
  exact this
theorem normal_num (v : Value) (l : List Nat) (w : World) (h : Nv w v l) :
    Calls Try.prog 60 #[v] w fun e w' => (∃ v', e = .returned v' ∧ Nv w' v' (dg (val l))) ∧ Below w.heap.size w w' := by
  have := normal_calls v l w h
  rw [trimL_dg h.digits] at this
  exact this

set_option maxHeartbeats 1000000 in
set_option maxRecDepth 100000 in
theorem of_calls (n : Nat) (hn : n < 18446744073709551616) (w : World) :
    Calls Try.prog 62 #[.int .u64 n] w fun e w' => (∃ v', e = .returned v' ∧ Nv w' v' (dg n)) ∧ Below w.heap.size w w' := by
  have hr := Row.made w [n % 4294967296, n / 4294967296]
  have hd : Dig [n % 4294967296, n / 4294967296] := Dig.cons (by omega) (Dig.cons (by omega) Dig.nil)
  have hnv := hr.nv0 2 (by simp) (by unfold LIM; omega) hd
  have hba : Below w.heap.size w (w.alloc (.cells (dgs [n % 4294967296, n / 4294967296]).toArray 85)) := (Below.refl _ _).alloc (Nat.le_refl _) _
  have hc := normal_num _ _ _ hnv
  rw [show val [n % 4294967296, n / 4294967296] = n from by simp only [val]; omega] at hc
  have HC : Hid (Calls Try.prog 60 #[.slice (some ⟨w.heap.size, 0, none⟩) 2 2] (w.alloc (.cells #[.int .u32 ((n % 4294967296 : Nat) : Int), .int .u32 ((n / 4294967296 : Nat) : Int)] 85))
      fun e w' => (∃ v', e = .returned v' ∧ Nv w' v' (dg n)) ∧ Below (w.alloc (.cells #[.int .u32 ((n % 4294967296 : Nat) : Int), .int .u32 ((n / 4294967296 : Nat) : Int)] 85)).heap.size (w.alloc (.cells #[.int .u32 ((n % 4294967296 : Nat) : Int), .int .u32 ((n / 4294967296 : Nat) : Int)] 85)) w') := Lib.hid hc
  clear hc
  have HB := Lib.hid hba
  have e1 : Hid ((n : Int) % 4294967296 = ((n % 4294967296 : Nat) : Int)) := Lib.hid (by omega)
  have e2 : Hid ((n : Int) / 4294967296 = ((n / 4294967296 : Nat) : Int)) := Lib.hid (by omega)
  clear hr hd hnv hba
  go_enter Try.func62, Try.ntmps62
  go_wp2_with fail
  rw [e1.out, e2.out]
  refine (HC.out).mono ?_
  rintro e w1 ⟨⟨v1, rfl, hv⟩, hb1⟩
  have HV := Lib.hid hv
  have HB1 : Hid (Below w.heap.size w w1) := Lib.hid (HB.out.trans (hb1.mono (by simp)))
  clear hv hb1
  go_wp2_with fail
  go_ret
  exact ⟨⟨_, rfl, HV.out⟩, HB1.out⟩

set_option maxHeartbeats 1000000 in
set_option maxRecDepth 100000 in
theorem isZero_calls (v : Value) (l : List Nat) (w : World) (h : Nv w v l) :
    Calls Try.prog 54 #[v] w fun e w' => e = .returned (.bool (val l == 0)) ∧ w = w' := by
  have HT := Lib.hid (trim_num v l w h)
  have HE : Hid ((((dg (val l)).length : Int) == 0) = (val l == 0)) := Lib.hid (by
    rw [Bool.eq_iff_iff]
    simp only [beq_iff_eq]
    constructor
    · intro h
      exact dg_eq_nil.1 (List.eq_nil_of_length_eq_zero (by omega))
    · intro h
      rw [h, dg_zero]
      rfl)
  clear h
  generalize dg (val l) = r at *
  generalize (val l == 0) = b at *
  go_enter Try.func54, Try.ntmps54
  go_wp2_with fail
  refine (HT.out).mono ?_
  rintro e w1 ⟨v1, rfl, hv, rfl⟩
  obtain ⟨A, c, rfl, h1, h2, hv2⟩ := hv.open_
  clear hv hv2 h2 h1
  go_wp2_with fail
  go_ret
  exact ⟨by rw [← HE.out]; simp, rfl⟩

/-- Below, of a cell that the walk asks for. -/
theorem Nv.same {w w' : World} {v : Value} {l : List Nat} (h : Nv w v l) (hc : ∀ a, w'.cell? a = w.cell? a) (hs : w.heap.size ≤ w'.heap.size) : Nv w' v l := by
  obtain ⟨A, c, rfl, h1, h2, h3, h4⟩ := h.out
  refine ⟨A, c, rfl, h1, h2, h3, fun hp => ?_⟩
  obtain ⟨b, o, e, hlt, hcc⟩ := h4 hp
  exact ⟨b, o, e, Nat.lt_of_lt_of_le hlt hs, fun j hj => (hc _).trans (hcc j hj)⟩
theorem Nv.drewN {w : World} {v : Value} {l : List Nat} (h : Nv w v l) (n : Nat) : Nv (w.drewN n) v l := h.below (below_drewN (Below.refl _ _) n)

theorem cmpN_lt {a b : Nat} (h : a < b) : cmpN a b = -1 := by unfold cmpN; rw [if_pos h]
theorem cmpN_gt {a b : Nat} (h : b < a) : cmpN a b = 1 := by unfold cmpN; rw [if_neg (by omega), if_pos h]
theorem cmpN_eq (a : Nat) : cmpN a a = 0 := by unfold cmpN; rw [if_neg (by omega), if_neg (by omega)]

theorem cmp_len {a b : Nat} (h : (dg a).length < (dg b).length) : a < b := by
  refine Decidable.byContradiction fun hlt => ?_
  have h1 : 4294967296 ^ (dg a).length ≤ b := by
    refine Decidable.byContradiction fun h2 => ?_
    have := dg_length_le (n := b) (k := (dg a).length) (by omega)
    omega
  have h2 := le_dg_length (n := a) (k := (dg a).length) (Nat.le_refl _)
  omega

/-- What is left to compare below place n. -/
def cmpFrom (l m : List Nat) (n : Nat) : Int := cmpN (val (l.take n)) (val (m.take n))
theorem cmpFrom_succ (l m : List Nat) (hl : Dig l) (hm : Dig m) (n : Nat) (h1 : n < l.length) (h2 : n < m.length) :
    cmpFrom l m (n + 1) = if l.getD n 0 < m.getD n 0 then -1 else if m.getD n 0 < l.getD n 0 then 1 else cmpFrom l m n := by
  unfold cmpFrom
  by_cases c1 : l.getD n 0 < m.getD n 0
  · rw [if_pos c1, cmpN_lt (cmp_top l m hl n h1 h2 c1)]
  · rw [if_neg c1]
    by_cases c2 : m.getD n 0 < l.getD n 0
    · rw [if_pos c2, cmpN_gt (cmp_top m l hm n h2 h1 c2)]
    · rw [if_neg c2, val_take_succ l n h1, val_take_succ m n h2, show l.getD n 0 = m.getD n 0 from by omega]
      unfold cmpN
      simp

end Go.Proofs.Ytgmooidagkbheaa
