/-
  Package integer: Of, Normal, Neg, Abs, Sign; division.isZero.
-/
import Derived.Test.YtgmooidagkbheaaIn
namespace Go.Proofs.Ytgmooidagkbheaa
open Go.RowKit Go.Proofs.YtgmooidagkbheaaW.PrintWords
set_option linter.unusedVariables false

theorem Iv.open_ {w : World} {v : Value} {g : Bool} {l : List Nat} (h : Iv w v g l) : ∃ A c, v = .agg #[.bool g, .slice A l.length c] ∧ l.length ≤ c ∧ c ≤ LIM ∧ Nv w (.slice A l.length c) l := by
  obtain ⟨s, rfl, hs⟩ := h.out
  obtain ⟨A, c, rfl, h1, h2, h3⟩ := hs.open_
  exact ⟨A, c, rfl, h1, h2, h3⟩
theorem Iv.of {w : World} {g : Bool} {l : List Nat} {A : Option Addr} {c : Nat} (h : Nv w (.slice A l.length c) l) : Iv w (.agg #[.bool g, .slice A l.length c]) g l := ⟨_, rfl, h⟩
theorem Iv.apart {w w' : World} {v : Value} {g : Bool} {l : List Nat} {B : Nat} {x : Bool} {A : Option Addr} {n c : Nat} (h : Iv w v g l) (ht : Two w B (.bool x) (.slice A n c)) (ho : ∀ k, k ≠ B → w'.heap[k]? = w.heap[k]?) (hs : w.heap.size ≤ w'.heap.size) : Iv w' v g l := by
  obtain ⟨s, e, hs'⟩ := h.out
  exact ⟨s, e, hs'.apart ht ho hs⟩
theorem In.apart {w w' : World} {v : Value} {z : Int} {B : Nat} {x : Bool} {A : Option Addr} {n c : Nat} (h : In w v z) (ht : Two w B (.bool x) (.slice A n c)) (ho : ∀ k, k ≠ B → w'.heap[k]? = w.heap[k]?) (hs : w.heap.size ≤ w'.heap.size) : In w' v z := ⟨h.iv.apart ht ho hs⟩
/-- The value as the canonical form, its address a variable. -/
theorem In.open_ {w : World} {v : Value} {z : Int} (h : In w v z) : ∃ A n c, v = .agg #[.bool (decide (z < 0)), .slice A n c] ∧ In w (.agg #[.bool (decide (z < 0)), .slice A n c]) z := by
  obtain ⟨A, c, rfl, _, _, h3⟩ := h.iv.open_
  exact ⟨A, _, c, rfl, ⟨Iv.of h3⟩⟩
theorem boxed (w : World) (a b : Value) : Below w.heap.size w (w.alloc (.cells #[a, b] 25)) := (Below.refl _ _).alloc (Nat.le_refl _) _
theorem boxed2 (w : World) (o o' : Obj) : Below w.heap.size w ((w.alloc o).alloc o') := ((Below.refl _ _).alloc (Nat.le_refl _) _).alloc (by simp) _
theorem Two.made2 (w : World) (o : Obj) (a b : Value) : Two ((w.alloc o).alloc (.cells #[a, b] 25)) (w.heap.size + 1) a b := by
  have := Two.made (w.alloc o) a b
  simpa using this
theorem iz_not (g : Bool) (l : List Nat) : iz (!g) l = -iz g l := by
  unfold iz
  cases g <;> simp
theorem iz_false (l : List Nat) : iz false l = val l := by simp [iz]
theorem iz_abs (g : Bool) (l : List Nat) : iz false l = ((iz g l).natAbs : Int) := by rw [iz_false, iz_natAbs]

set_option maxHeartbeats 1000000 in
set_option maxRecDepth 100000 in
theorem inormal_calls (v : Value) (g : Bool) (l : List Nat) (w : World) (h : Iv w v g l) :
    Calls Try.prog 65 #[v] w fun e w' => (∃ v, e = .returned v ∧ In w' v (iz g l)) ∧ Below w.heap.size w w' := by
  obtain ⟨A, c, rfl, h1, h2, hs⟩ := h.open_
  have HBX := Lib.hid (boxed2 w (.cells #[.bool g, .slice A l.length c] 25) (.cells #[.bool false, .slice none 0 0] 25))
  have HT := Lib.hid (Two.made2 w (.cells #[.bool g, .slice A l.length c] 25) (.bool false) (.slice none 0 0))
  have HF := Lib.hid (from_calls g _ l _ (hs.below HBX.out))
  have HZ : Hid (iz g l = iz g l) := Lib.hid (rfl)
  rw [HZ.out] at HF
  clear h h1 h2 hs HZ
  generalize iz g l = z at *
  go_enter Try.func65, Try.ntmps65
  go_wp2_with fail
  refine (HF.out).mono ?_
  rintro e w1 ⟨⟨v1, rfl, hv1⟩, hb1⟩
  obtain ⟨A1, n1, c1, rfl, hv2⟩ := hv1.open_
  have hT := HT.out.keep hb1
  have hc0 := hT.c0
  have hc1 := hT.c1
  have hf0 := hT.fz 0
  have hf1 := hT.fz 1
  have HT1 := Lib.hid hT
  have HV := Lib.hid hv2
  have HB := Lib.hid (HBX.out.trans (hb1.mono HBX.out.size))
  obtain ⟨d, hd⟩ : ∃ d, decide (z < 0) = d := ⟨_, rfl⟩
  rw [hd] at HV ⊢
  clear hv1 hb1 hv2 hT hd HT HF HBX
  go_wp2_with fail
  refine bodyPost_ret (v := .agg #[.bool d, .slice A1 n1 c1]) (by simp [results, Try.results65, go_sem, hc0, hc1]) rfl ⟨⟨_, rfl, HV.out.apart HT1.out (two_other _ _ _ _) (two_size _ _ _ _)⟩, Below.two HB.out (by omega) _ _⟩

set_option maxHeartbeats 1000000 in
set_option maxRecDepth 100000 in
theorem ineg_calls (v : Value) (g : Bool) (l : List Nat) (w : World) (h : Iv w v g l) :
    Calls Try.prog 32 #[v] w fun e w' => (∃ v, e = .returned v ∧ In w' v (-iz g l)) ∧ Below w.heap.size w w' := by
  obtain ⟨A, c, rfl, h1, h2, hs⟩ := h.open_
  have HBX := Lib.hid (boxed2 w (.cells #[.bool g, .slice A l.length c] 25) (.cells #[.bool false, .slice none 0 0] 25))
  have HT := Lib.hid (Two.made2 w (.cells #[.bool g, .slice A l.length c] 25) (.bool false) (.slice none 0 0))
  have HF := Lib.hid (from_calls (!g) _ l _ (hs.below HBX.out))
  have HZ : Hid (iz (!g) l = -iz g l) := Lib.hid (iz_not g l)
  rw [HZ.out] at HF
  clear h h1 h2 hs HZ
  generalize -iz g l = z at *
  go_enter Try.func32, Try.ntmps32
  go_wp2_with fail
  refine (HF.out).mono ?_
  rintro e w1 ⟨⟨v1, rfl, hv1⟩, hb1⟩
  obtain ⟨A1, n1, c1, rfl, hv2⟩ := hv1.open_
  have hT := HT.out.keep hb1
  have hc0 := hT.c0
  have hc1 := hT.c1
  have hf0 := hT.fz 0
  have hf1 := hT.fz 1
  have HT1 := Lib.hid hT
  have HV := Lib.hid hv2
  have HB := Lib.hid (HBX.out.trans (hb1.mono HBX.out.size))
  obtain ⟨d, hd⟩ : ∃ d, decide (z < 0) = d := ⟨_, rfl⟩
  rw [hd] at HV ⊢
  clear hv1 hb1 hv2 hT hd HT HF HBX
  go_wp2_with fail
  refine bodyPost_ret (v := .agg #[.bool d, .slice A1 n1 c1]) (by simp [results, Try.results32, go_sem, hc0, hc1]) rfl ⟨⟨_, rfl, HV.out.apart HT1.out (two_other _ _ _ _) (two_size _ _ _ _)⟩, Below.two HB.out (by omega) _ _⟩

set_option maxHeartbeats 1000000 in
set_option maxRecDepth 100000 in
theorem iabs_calls (v : Value) (g : Bool) (l : List Nat) (w : World) (h : Iv w v g l) :
    Calls Try.prog 26 #[v] w fun e w' => (∃ v, e = .returned v ∧ In w' v (((iz g l).natAbs : Int))) ∧ Below w.heap.size w w' := by
  obtain ⟨A, c, rfl, h1, h2, hs⟩ := h.open_
  have HBX := Lib.hid (boxed2 w (.cells #[.bool g, .slice A l.length c] 25) (.cells #[.bool false, .slice none 0 0] 25))
  have HT := Lib.hid (Two.made2 w (.cells #[.bool g, .slice A l.length c] 25) (.bool false) (.slice none 0 0))
  have HF := Lib.hid (from_calls false _ l _ (hs.below HBX.out))
  have HZ : Hid (iz false l = ((iz g l).natAbs : Int)) := Lib.hid (iz_abs g l)
  rw [HZ.out] at HF
  clear h h1 h2 hs HZ
  generalize ((iz g l).natAbs : Int) = z at *
  go_enter Try.func26, Try.ntmps26
  go_wp2_with fail
  refine (HF.out).mono ?_
  rintro e w1 ⟨⟨v1, rfl, hv1⟩, hb1⟩
  obtain ⟨A1, n1, c1, rfl, hv2⟩ := hv1.open_
  have hT := HT.out.keep hb1
  have hc0 := hT.c0
  have hc1 := hT.c1
  have hf0 := hT.fz 0
  have hf1 := hT.fz 1
  have HT1 := Lib.hid hT
  have HV := Lib.hid hv2
  have HB := Lib.hid (HBX.out.trans (hb1.mono HBX.out.size))
  obtain ⟨d, hd⟩ : ∃ d, decide (z < 0) = d := ⟨_, rfl⟩
  rw [hd] at HV ⊢
  clear hv1 hb1 hv2 hT hd HT HF HBX
  go_wp2_with fail
  refine bodyPost_ret (v := .agg #[.bool d, .slice A1 n1 c1]) (by simp [results, Try.results26, go_sem, hc0, hc1]) rfl ⟨⟨_, rfl, HV.out.apart HT1.out (two_other _ _ _ _) (two_size _ _ _ _)⟩, Below.two HB.out (by omega) _ _⟩

set_option maxHeartbeats 1000000 in
set_option maxRecDepth 100000 in
theorem sign_calls (v : Value) (g : Bool) (l : List Nat) (w : World) (h : Iv w v g l) :
    Calls Try.prog 24 #[v] w fun e w' => e = .returned (.int .i64 (Int.sign (iz g l))) ∧ Below w.heap.size w w' := by
  obtain ⟨A, c, rfl, h1, h2, hs⟩ := h.open_
  have HBX := Lib.hid (boxed w (.bool g) (.slice A l.length c))
  have HI := Lib.hid (isZero_calls _ l _ (hs.below HBX.out))
  clear h h1 h2 hs
  by_cases h0 : val l = 0
  · have HE : Hid (Int.sign (iz g l) = 0) := Lib.hid (by
      have : iz g l = 0 := by unfold iz; rw [h0]; split <;> rfl
      rw [this]; rfl)
    rw [show (val l == 0) = true from by simp [h0]] at HI
    clear h0
    go_enter Try.func24, Try.ntmps24
    go_wp2_with fail
    refine (HI.out).mono ?_
    rintro e w1 ⟨rfl, rfl⟩
    go_wp2_with fail
    go_ret
    exact ⟨by rw [HE.out]; rfl, HBX.out⟩
  · rw [show (val l == 0) = false from by simp [h0]] at HI
    cases g
    · have HE : Hid (Int.sign (iz false l) = 1) := Lib.hid (Int.sign_eq_one_of_pos (by unfold iz; simp; omega))
      clear h0
      go_enter Try.func24, Try.ntmps24
      go_wp2_with fail
      refine (HI.out).mono ?_
      rintro e w1 ⟨rfl, rfl⟩
      go_wp2_with fail
      go_ret
      exact ⟨by rw [HE.out]; rfl, HBX.out⟩
    · have HE : Hid (Int.sign (iz true l) = -1) := Lib.hid (Int.sign_eq_neg_one_of_neg (by unfold iz; simp; omega))
      clear h0
      go_enter Try.func24, Try.ntmps24
      go_wp2_with fail
      refine (HI.out).mono ?_
      rintro e w1 ⟨rfl, rfl⟩
      go_wp2_with fail
      go_ret
      exact ⟨by rw [HE.out]; rfl, HBX.out⟩

theorem sign_zero (z : Int) : ((Int.sign z) == 0) = (z == 0) := by
  rw [Bool.eq_iff_iff]
  simp only [beq_iff_eq]
  exact Int.sign_eq_zero_iff_zero

set_option maxHeartbeats 1000000 in
set_option maxRecDepth 100000 in
theorem iszero_calls (v : Value) (g : Bool) (l : List Nat) (w : World) (h : Iv w v g l) :
    Calls Try.prog 48 #[v] w fun e w' => e = .returned (.bool (iz g l == 0)) ∧ Below w.heap.size w w' := by
  obtain ⟨A, c, rfl, h1, h2, hs⟩ := h.open_
  have HBX := Lib.hid (boxed w (.bool g) (.slice A l.length c))
  have HI := Lib.hid (sign_calls _ g l _ (h.below HBX.out))
  have HE := Lib.hid (sign_zero (iz g l))
  clear h h1 h2 hs
  generalize (iz g l == 0) = b at *
  generalize Int.sign (iz g l) = s at *
  go_enter Try.func48, Try.ntmps48
  go_wp2_with fail
  refine (HI.out).mono ?_
  rintro e w1 ⟨rfl, hb1⟩
  have HB1 := Lib.hid (HBX.out.trans (hb1.mono HBX.out.size))
  clear hb1
  go_wp2_with fail
  go_ret
  exact ⟨by rw [← HE.out]; rfl, HB1.out⟩

theorem in_nat {w : World} {A : Option Addr} {c m : Nat} (h : Nv w (.slice A (dg m).length c) (dg m)) : In w (.agg #[.bool false, .slice A (dg m).length c]) (m : Int) := by
  have e1 : decide ((m : Int) < 0) = false := decide_eq_false (by omega)
  refine ⟨?_⟩
  rw [e1, Int.natAbs_natCast]
  exact Iv.of h
theorem in_neg {w : World} {A : Option Addr} {c m : Nat} (hm : 0 < m) (h : Nv w (.slice A (dg m).length c) (dg m)) : In w (.agg #[.bool true, .slice A (dg m).length c]) (-(m : Int)) := by
  have e1 : decide (-(m : Int) < 0) = true := decide_eq_true (by omega)
  refine ⟨?_⟩
  rw [e1, Int.natAbs_neg, Int.natAbs_natCast]
  exact Iv.of h
set_option maxHeartbeats 1000000 in
set_option maxRecDepth 100000 in
theorem iof_calls (z : Int) (h1 : -9223372036854775808 ≤ z) (h2 : z < 9223372036854775808) (w : World) :
    Calls Try.prog 31 #[.int .i64 z] w fun e w' => (∃ v, e = .returned v ∧ In w' v z) ∧ Below w.heap.size w w' := by
  have HBX := Lib.hid (boxed w (.bool false) (.slice none 0 0))
  have HT := Lib.hid (Two.made w (.bool false) (.slice none 0 0))
  rcases Int.lt_or_le z 0 with h | h
  · obtain ⟨m, rfl⟩ : ∃ m : Nat, z = -(m : Int) := ⟨z.natAbs, by omega⟩
    have hm : 0 < m := by omega
    have HC := Lib.hid (of_calls m (by omega) (w.alloc (.cells #[.bool false, .slice none 0 0] 25)))
    have u1 : IntKind.u64.wrap (-(m : Int)) = 18446744073709551616 - (m : Int) := by
      simp only [IntKind.wrap, IntKind.signed, IntKind.bits]
      simp
      omega
    have u2 : IntKind.u64.wrap (-(18446744073709551616 - (m : Int))) = (m : Int) := by
      simp only [IntKind.wrap, IntKind.signed, IntKind.bits]
      simp
      omega
    go_enter Try.func31, Try.ntmps31
    go_wp2_with fail
    refine (HC.out).mono ?_
    rintro e w1 ⟨⟨v1, rfl, hv1⟩, hb1⟩
    obtain ⟨A1, c1, rfl, _, _, hv2⟩ := hv1.open_
    have hT := HT.out.keep hb1
    have hc0 := hT.c0
    have hc1 := hT.c1
    have hf0 := hT.fz 0
    have hf1 := hT.fz 1
    have HT1 := Lib.hid hT
    have HV := Lib.hid (in_neg hm hv2)
    have HB := Lib.hid (HBX.out.trans (hb1.mono HBX.out.size))
    obtain ⟨d, hd⟩ : ∃ d, (dg m).length = d := ⟨_, rfl⟩
    rw [hd] at HV ⊢
    clear hv1 hb1 hv2 hT hd HT HC HBX u1 u2
    go_wp2_with fail
    refine bodyPost_ret (v := .agg #[.bool true, .slice A1 d c1]) (by simp [results, Try.results31, go_sem, hc0, hc1]) rfl ⟨⟨_, rfl, HV.out.apart HT1.out (two_other _ _ _ _) (two_size _ _ _ _)⟩, Below.two HB.out (by omega) _ _⟩
  · obtain ⟨m, rfl⟩ : ∃ m : Nat, z = (m : Int) := ⟨z.natAbs, by omega⟩
    have HC := Lib.hid (of_calls m (by omega) (w.alloc (.cells #[.bool false, .slice none 0 0] 25)))
    have u1 : IntKind.u64.wrap (m : Int) = (m : Int) := wrap_u64_nat m (by omega)
    have d0 : decide ((m : Int) < 0) = false := decide_eq_false (by omega)
    have d1 : ¬ ((m : Int) < 0) := by omega
    clear h1 h2 h
    go_enter Try.func31, Try.ntmps31
    go_wp2_with fail
    refine (HC.out).mono ?_
    rintro e w1 ⟨⟨v1, rfl, hv1⟩, hb1⟩
    obtain ⟨A1, c1, rfl, _, _, hv2⟩ := hv1.open_
    have hT := HT.out.keep hb1
    have hc0 := hT.c0
    have hc1 := hT.c1
    have hf0 := hT.fz 0
    have hf1 := hT.fz 1
    have HT1 := Lib.hid hT
    have HV := Lib.hid (in_nat hv2)
    have HB := Lib.hid (HBX.out.trans (hb1.mono HBX.out.size))
    obtain ⟨d, hd⟩ : ∃ d, (dg m).length = d := ⟨_, rfl⟩
    rw [hd] at HV ⊢
    clear hv1 hb1 hv2 hT hd HT HC HBX u1 d0 d1
    go_wp2_with fail
    refine bodyPost_ret (v := .agg #[.bool false, .slice A1 d c1]) (by simp [results, Try.results31, go_sem, hc0, hc1]) rfl ⟨⟨_, rfl, HV.out.apart HT1.out (two_other _ _ _ _) (two_size _ _ _ _)⟩, Below.two HB.out (by omega) _ _⟩

end Go.Proofs.Ytgmooidagkbheaa
