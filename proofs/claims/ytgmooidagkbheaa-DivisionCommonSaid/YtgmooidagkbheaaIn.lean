/-
  Package integer: how an integer reads; signed, From, Of, Normal, Neg, Abs, Sign, isZero.
-/
import Derived.Test.YtgmooidagkbheaaDivl
import Derived.Deep.RegionHeld3
namespace Go.Proofs.Ytgmooidagkbheaa
open Go.RowKit Go.Proofs.YtgmooidagkbheaaW.PrintWords
set_option linter.unusedVariables false

/-- The value v reads, in the world w, as a sign and digits. -/
structure Iv (w : World) (v : Value) (g : Bool) (l : List Nat) : Prop where mk ::
  out : ∃ s, v = .agg #[.bool g, s] ∧ Nv w s l
theorem Iv.below {w w' : World} {v : Value} {g : Bool} {l : List Nat} (h : Iv w v g l) (hb : Below w.heap.size w w') : Iv w' v g l := by
  obtain ⟨s, e, hs⟩ := h.out
  exact ⟨s, e, hs.below hb⟩
/-- The number. -/
def iz (g : Bool) (l : List Nat) : Int := if g = true then -(val l : Int) else (val l : Int)
/-- The value v reads as the canonical form of z. -/
structure In (w : World) (v : Value) (z : Int) : Prop where mk ::
  iv : Iv w v (decide (z < 0)) (dg z.natAbs)
theorem In.below {w w' : World} {v : Value} {z : Int} (h : In w v z) (hb : Below w.heap.size w w') : In w' v z := ⟨h.iv.below hb⟩
theorem iz_dg (z : Int) : iz (decide (z < 0)) (dg z.natAbs) = z := by
  unfold iz
  rw [val_dg]
  split
  · rename_i h
    have := of_decide_eq_true h
    omega
  · rename_i h
    have : ¬ z < 0 := fun h' => h (decide_eq_true h')
    omega
theorem iz_natAbs (g : Bool) (l : List Nat) : (iz g l).natAbs = val l := by
  unfold iz
  split <;> omega
theorem iz_neg (g : Bool) (l : List Nat) : decide (iz g l < 0) = (g && decide (0 < (dg (val l)).length)) := by
  have e : (0 < (dg (val l)).length) ↔ 0 < val l := by
    constructor
    · intro h
      rcases Nat.eq_zero_or_pos (val l) with h0 | h0
      · rw [h0, dg_zero] at h
        cases h
      · exact h0
    · intro h
      exact List.length_pos_iff.2 fun h' => by rw [dg_eq_nil.1 h'] at h; cases h
  rw [Bool.eq_iff_iff]
  simp only [decide_eq_true_eq, Bool.and_eq_true]
  rw [e]
  unfold iz
  cases g
  · simp
    try omega
  · simp

set_option maxHeartbeats 1000000 in
set_option maxRecDepth 100000 in
theorem signed_raw (g : Bool) (A : Option Addr) (n c : Nat) (w : World) (hn : n ≤ LIM) :
    Calls Try.prog 56 #[.bool g, .slice A n c] w fun e w' => e = .returned (.agg #[.bool (g && decide (0 < n)), .slice A n c]) ∧ Below w.heap.size w w' := by
  have hn2 : n ≤ 70368744177664 := hn
  have HB : ∀ o : Obj, Below w.heap.size w (w.alloc o) := fun o => (Below.refl _ _).alloc (Nat.le_refl _) _
  have HBB := Lib.hid HB
  clear HB hn
  cases g
  · go_enter Try.func56, Try.ntmps56
    go_wp2_with fail
    exact bodyPost_ret (v := .agg #[.bool false, .slice A n c]) (by simp [results, Try.results56, go_sem]) rfl ⟨rfl, HBB.out _⟩
  · by_cases h0 : 0 < n
    · have h1 : decide (0 < n) = true := decide_eq_true h0
      go_enter Try.func56, Try.ntmps56
      go_wp2_with fail
      exact bodyPost_ret (v := .agg #[.bool true, .slice A n c]) (by simp [results, Try.results56, go_sem]) rfl ⟨by simp [h1], HBB.out _⟩
    · have h1 : decide (0 < n) = false := decide_eq_false h0
      go_enter Try.func56, Try.ntmps56
      go_wp2_with fail
      exact bodyPost_ret (v := .agg #[.bool false, .slice A n c]) (by simp [results, Try.results56, go_sem]) rfl ⟨by simp [h1], HBB.out _⟩


/-- The block g holds a struct of two cells. -/
structure Two (w : World) (g : Nat) (a b : Value) : Prop where mk ::
  out : w.heap[g]? = some (.cells #[a, b] 25 (0, 0))
theorem Two.lt {w : World} {g : Nat} {a b : Value} (h : Two w g a b) : g < w.heap.size := (Array.getElem?_eq_some_iff.1 h.out).1
theorem Two.below {w w' : World} {B g : Nat} {a b : Value} (h : Two w g a b) (hb : Below B w w') (hg : g < B) : Two w' g a b := ⟨(hb.block g hg).trans h.out⟩
theorem Two.keep {w w' : World} {g : Nat} {a b : Value} (h : Two w g a b) (hb : Below w.heap.size w w') : Two w' g a b := h.below hb h.lt
theorem Two.c0 {w : World} {g : Nat} {a b : Value} (h : Two w g a b) : w.cell? ⟨g, 0, none⟩ = some a := by simp [World.cell?, h.out]
theorem Two.c1 {w : World} {g : Nat} {a b : Value} (h : Two w g a b) : w.cell? ⟨g, 1, none⟩ = some b := by simp [World.cell?, h.out]
theorem Two.fz {w : World} {g : Nat} {a b : Value} (h : Two w g a b) (j : Nat) : w.frozen? ⟨g, j, none⟩ = false := by simp [World.frozen?, h.out]
theorem Two.made (w : World) (a b : Value) : Two (w.alloc (.cells #[a, b] 25)) w.heap.size a b := by
  refine ⟨?_⟩
  show (w.heap.push _)[w.heap.size]? = _
  simp

/-- Digits do not lie in such a block. -/
theorem Nv.apart {w w' : World} {v : Value} {l : List Nat} {g : Nat} {x : Bool} {A : Option Addr} {n c : Nat} (h : Nv w v l) (ht : Two w g (.bool x) (.slice A n c)) (ho : ∀ k, k ≠ g → w'.heap[k]? = w.heap[k]?) (hs : w.heap.size ≤ w'.heap.size) : Nv w' v l := by
  obtain ⟨A', c', rfl, h1, h2, h3, h4⟩ := h.out
  refine ⟨A', c', rfl, h1, h2, h3, fun hp => ?_⟩
  obtain ⟨b, o, e, hlt, hc⟩ := h4 hp
  have hne : b ≠ g := by
    rintro rfl
    have h0 := hc 0 hp
    simp only [World.cell?, ht.out, Nat.add_zero] at h0
    rcases o with _ | _ | o <;> simp at h0
  refine ⟨b, o, e, by omega, fun j hj => ?_⟩
  have := hc j hj
  simp only [World.cell?] at this ⊢
  rw [ho b hne]
  exact this
theorem two_other (w : World) (g : Nat) (u u' : Value) : ∀ k, k ≠ g → ((w.setCell ⟨g, 0, none⟩ u).setCell ⟨g, 1, none⟩ u').heap[k]? = w.heap[k]? := fun k hk => by
  rw [Below.heap_setCell _ _ _ _ hk, Below.heap_setCell _ _ _ _ hk]
theorem two_size (w : World) (g : Nat) (u u' : Value) : w.heap.size ≤ ((w.setCell ⟨g, 0, none⟩ u).setCell ⟨g, 1, none⟩ u').heap.size := by simp
theorem Below.two {w w' : World} {B g : Nat} (h : Below B w w') (hg : B ≤ g) (u u' : Value) : Below B w ((w'.setCell ⟨g, 0, none⟩ u).setCell ⟨g, 1, none⟩ u') :=
  (h.setCell (p := ⟨g, 0, none⟩) hg u).setCell (p := ⟨g, 1, none⟩) hg u'

set_option maxHeartbeats 1000000 in
set_option maxRecDepth 100000 in
theorem from_calls (g : Bool) (s : Value) (l : List Nat) (w : World) (h : Nv w s l) :
    Calls Try.prog 50 #[.bool g, s] w fun e w' => (∃ v, e = .returned v ∧ In w' v (iz g l)) ∧ Below w.heap.size w w' := by
  have hba : Below w.heap.size w (w.alloc (.cells #[.bool false, .slice none 0 0] 25)) := (Below.refl _ _).alloc (Nat.le_refl _) _
  have HN := Lib.hid (normal_num s l _ (h.below hba))
  have HT := Lib.hid (Two.made w (.bool false) (.slice none 0 0))
  have HBA := Lib.hid hba
  have HE := Lib.hid (iz_neg g l)
  have HAb := Lib.hid (iz_natAbs g l)
  clear hba
  go_enter Try.func50, Try.ntmps50
  go_wp2_with fail
  refine (HN.out).mono ?_
  rintro e w1 ⟨⟨v1, rfl, hv1⟩, hb1⟩
  obtain ⟨A, c, rfl, h1, h2, hv2⟩ := hv1.open_
  have HT1 := Lib.hid (HT.out.keep hb1)
  have HB1 := Lib.hid (HBA.out.trans (hb1.mono HBA.out.size))
  have HS := Lib.hid (signed_raw g A (dg (val l)).length c w1 (by omega))
  have HV := Lib.hid hv2
  clear hv1 hb1 hv2 h1 h2 HT HN
  go_wp2_with fail
  refine (HS.out).mono ?_
  rintro e w2 ⟨rfl, hb2⟩
  have hT2 := HT1.out.keep hb2
  have hc0 := hT2.c0
  have hc1 := hT2.c1
  have hf0 := hT2.fz 0
  have hf1 := hT2.fz 1
  have HT2 := Lib.hid hT2
  have HV2 := Lib.hid (HV.out.below hb2)
  have HB2 := Lib.hid (HB1.out.trans (hb2.mono HB1.out.size))
  clear hT2 hb2
  go_wp2_with fail
  refine bodyPost_ret (v := .agg #[.bool (g && decide (0 < (dg (val l)).length)), .slice A (dg (val l)).length c]) (by simp [results, Try.results50, go_sem, hc0, hc1]) rfl ⟨⟨_, rfl, ⟨⟨.slice A (dg (val l)).length c, ?_, ?_⟩⟩⟩, ?_⟩
  · rw [HE.out]
  · rw [HAb.out]
    exact HV2.out.apart HT2.out (two_other _ _ _ _) (two_size _ _ _ _)
  · exact Below.two HB2.out (Nat.le_refl _) _ _

end Go.Proofs.Ytgmooidagkbheaa
