/-
  modular.Primes: the contract of the iterator; modular.NextPrime.
-/
import Derived.RangeFuncNested
import Derived.RangeFuncBound
import Derived.RangeFuncCalls
import Derived.RangeFuncLeaves
import Derived.Shelf.Abstract
import Derived.Shelf.RegionOpen
import Derived.WalkKit
import Derived.OwnWalkIn
import Derived.TacticsInMore
import Derived.LoopNIn
import Derived.LoopIn
import Derived.Test.YtgmooidagkbheaaDoorIp
namespace Go.Proofs.YtgmooidagkbheaaDoor
open Go.RowKit Go.Shelf Go.Proofs.YtgmooidagkbheaaDoorW.PrintWords
set_option linter.unusedVariables false
attribute [local go_sem] Oper.semAt_some

/-- A number below 2^31. -/
abbrev U31 := { x : Nat // x < 2147483648 }

/-- The primes from f on and below t, in ascending order. -/
inductive Seg (f : Nat) : Nat → List Nat → Prop
  | none : Seg f f []
  | skip {t xs} : Seg f t xs → isPr t = false → Seg f (t + 1) xs
  | take {t xs} : Seg f t xs → isPr t = true → Seg f (t + 1) (xs ++ [t])

theorem Seg.len {f t : Nat} {xs : List Nat} (h : Seg f t xs) : f + xs.length ≤ t := by
  induction h with
  | none => simp
  | skip _ _ ih => omega
  | take _ _ ih => simp; omega

def left31 (v : Value) : Nat := 2147483648 - (intOf v).toNat

theorem grown_below {w w' : World} (h : Below w.heap.size w w') : w.grownBy w' none := ⟨h.os, h.tape, h.output, h.size, fun k hk _ => h.block k hk⟩

set_option maxRecDepth 100000 in
set_option maxHeartbeats 4000000 in
theorem primes_stops (n : Nat) (bl fr : Nat) (w0 w : World) (hfr : fr < 4294967296) (hbl : bl < w.heap.size) (hc : w.cell? ⟨bl, 0, none⟩ = some (.int .u32 fr)) (hT : TzTab w0) (hB0 : Below w0.heap.size w0 w) :
    SeqStopsK Fence.wide n Tryd.prog 52 #[.pointer (some ⟨bl, 0, none⟩)] (fun x : U31 => #[.int .u32 x.1]) (Below w0.heap.size)
      (fun xs => ∃ t, 2147483648 ≤ t ∧ Seg fr t (xs.map (·.1))) (fun pre => ∃ t, Seg fr t (pre.map (·.1))) 2147483648 w := fun l J Jx W hW hJ hJx hY h0 => by
  refine callsIn_of_wp Tryd.func52 rfl trivial ?_ rfl
  simp only [Tryd.ntmps52, List.size_toArray, List.length_cons, List.length_nil, Nat.reduceAdd, Nat.reduceSub, Array.replicate_succ, Array.replicate_zero, List.push_toArray, List.append_toArray, List.nil_append, List.cons_append]
  have hcW := (hW.cell (p := ⟨bl, 0, none⟩) hbl).trans hc
  have HY := Lib.hid hY
  have HJ := Lib.hid hJ
  have HW := Lib.hid hW
  have HT := Lib.hid hT
  have HB0 := Lib.hid hB0
  have HF := Lib.hid hfr
  have HL := Lib.hid hbl
  clear hY hJ hJx hW hT hB0 hc hfr hbl
  gi_wp2
  gi_loopw [3] (fun p wr => ∃ (t : Nat) (pre : List U31), p = .int .u32 t ∧ t < 4294967296 ∧ Seg fr t (pre.map (·.1)) ∧ J pre wr ∧ Below w0.heap.size w0 wr)
    (fun p wr => left31 p)
  case atStart =>
    exact ⟨fr, [], rfl, HF.out, .none, h0, HB0.out.trans (HW.out.mono HB0.out.size)⟩
  case round =>
    obtain ⟨t, pre, rfl, ht, hs, hJs, hB⟩ := hrel
    have HS := Lib.hid hs
    have HB := Lib.hid hB
    have H4 := Lib.hid ht
    clear hs hB ht
    by_cases h1 : t < 2147483648
    · have HP := Lib.hid (isPr_calls t H4.out wr (HT.out.below HB.out))
      have H1 := Lib.hid h1
      have g1 : (t : Int) < 2147483648 := by omega
      have HLen : Hid (pre.length < 2147483648) := Lib.hid (by have h3 := HS.out.len; rw [List.length_map] at h3; have := H1.out; omega)
      clear h1
      cases hp : isPr t with
      | false =>
        have HPF := Lib.hid hp
        rw [hp] at HP
        clear hp
        gi_wp2_with fail
        refine ⟨trivial, fun h => Bool.noConfusion h, ?_⟩
        refine (callsIn_wide.2 HP.out).mono ?_
        rintro e w1 ⟨rfl, hb1⟩
        have HB1 := Lib.hid hb1
        clear hb1
        try simp only []
        repeat (first | gi_guarded | gi_step)
        refine ⟨fun _ _ => trivial, ?_⟩
        gi_wp2_with fail
        refine ⟨⟨t + 1, pre, by rfl, by have := H1.out; omega, HS.out.skip HPF.out, HJ.out pre _ _ none hJs (grown_below HB1.out) (fun r e => by cases e), HB.out.trans (HB1.out.mono HB.out.size)⟩, ?_⟩
        · have := H1.out
          unfold left31 intOf
          simp only []
          omega
      | true =>
        have HPF := Lib.hid hp
        rw [hp] at HP
        clear hp
        gi_wp2_with fail
        refine ⟨trivial, fun h => Bool.noConfusion h, ?_⟩
        refine (callsIn_wide.2 HP.out).mono ?_
        rintro e w1 ⟨rfl, hb1⟩
        obtain ⟨fn, tmps, assign, body, hy, hR⟩ := HY.out pre ⟨t, H1.out⟩ w1 (HJ.out pre _ _ none hJs (grown_below hb1) (fun r e => by cases e)) HLen.out
        dsimp only at hy
        have HR := Lib.hid hR
        have HB1 := Lib.hid hb1
        clear hb1 hR
        try simp only []
        gi_wp2_with fail
        refine ⟨fun h => Bool.noConfusion h, ?_⟩
        refine HR.out.mono ?_
        rintro e W3 (⟨rfl, hJ3, hk3⟩ | ⟨rfl, hJx3⟩)
        · have HK := Lib.hid hk3
          clear hk3
          try simp only []
          gi_wp2_with fail
          refine ⟨⟨t + 1, pre ++ [⟨t, H1.out⟩], by rfl, by have := H1.out; omega, by rw [List.map_append]; exact HS.out.take HPF.out, hJ3, (HB.out.trans (HB1.out.mono HB.out.size)).trans HK.out⟩, ?_⟩
          have := H1.out
          unfold left31 intOf
          simp only []
          omega
        · try simp only []
          gi_wp2_with fail
          refine bodyPost_ret (results_none rfl _ _ _) rfl ?_
          exact ⟨⟨_, rfl⟩, .inr ⟨pre ++ [⟨t, H1.out⟩], ⟨t + 1, by rw [List.map_append]; exact HS.out.take HPF.out⟩, hJx3⟩⟩
    · have H1 := Lib.hid h1
      have g1 : ¬ (t : Int) < 2147483648 := by omega
      clear h1
      gi_wp2
      go_end0
      exact ⟨⟨_, rfl⟩, .inl ⟨pre, ⟨t, by have := H1.out; omega, HS.out⟩, hJs⟩⟩

/-- Where the next prime may lie, these having come. -/
def lo (f : Nat) (xs : List Nat) : Nat := (xs.getLast?.map (· + 1)).getD f
theorem lo_nil (f : Nat) : lo f [] = f := rfl
theorem lo_snoc (f : Nat) (xs : List Nat) (x : Nat) : lo f (xs ++ [x]) = x + 1 := by simp [lo]

theorem Seg.rest {f t : Nat} {xs : List Nat} (h : Seg f t xs) : lo f xs ≤ t ∧ ∀ k, lo f xs ≤ k → k < t → isPr k = false := by
  induction h with
  | none => exact ⟨Nat.le_refl _, fun k h1 h2 => by rw [lo_nil] at h1; omega⟩
  | @skip t xs hs hp ih =>
    refine ⟨by have := ih.1; omega, fun k h1 h2 => ?_⟩
    by_cases e : k = t
    · rw [e]; exact hp
    · exact ih.2 k h1 (by omega)
  | @take t xs hs hp ih =>
    rw [lo_snoc]
    exact ⟨Nat.le_refl _, fun k h1 h2 => by omega⟩

theorem Seg.one {f t : Nat} {xs : List Nat} (h : Seg f t xs) : ∀ pre x post, xs = pre ++ x :: post → isPr x = true ∧ lo f pre ≤ x ∧ x < t ∧ ∀ k, lo f pre ≤ k → k < x → isPr k = false := by
  induction h with
  | none => intro pre x post e; simp at e
  | @skip t xs hs hp ih =>
    intro pre x post e
    obtain ⟨a, b, c, d⟩ := ih pre x post e
    exact ⟨a, b, by omega, d⟩
  | @take t xs hs hp ih =>
    intro pre x post e
    rcases List.eq_nil_or_concat post with rfl | ⟨q, y, rfl⟩
    · have e2 := List.append_inj' e rfl
      obtain ⟨rfl, e3⟩ := e2
      simp at e3
      subst e3
      have hr := hs.rest
      exact ⟨hp, hr.1, by omega, hr.2⟩
    · rw [List.concat_eq_append, ← List.cons_append, ← List.append_assoc] at e
      have e2 := List.append_inj' e rfl
      obtain ⟨a, b, c, d⟩ := ih pre x q e2.1
      exact ⟨a, b, by omega, d⟩

theorem two_cells0 {W : World} {b : Nat} {v0 v1 u0 u1 : Value} (h0 : W.cell? ⟨b, 0, none⟩ = some v0) (h1 : W.cell? ⟨b + 1, 0, none⟩ = some v1) :
    ((W.setCell ⟨b, 0, none⟩ u0).setCell ⟨b + 1, 0, none⟩ u1).cell? ⟨b, 0, none⟩ = some u0 :=
  (World.cell?_setCell_other _ _ _ _ (by intro e; injection e; omega)).trans (World.cell?_setCell_same _ _ _ h0)
theorem two_cells1 {W : World} {b : Nat} {v0 v1 u0 u1 : Value} (h0 : W.cell? ⟨b, 0, none⟩ = some v0) (h1 : W.cell? ⟨b + 1, 0, none⟩ = some v1) :
    ((W.setCell ⟨b, 0, none⟩ u0).setCell ⟨b + 1, 0, none⟩ u1).cell? ⟨b + 1, 0, none⟩ = some u1 :=
  World.cell?_setCell_same _ _ _ ((World.cell?_setCell_other _ _ _ _ (by intro e; injection e; omega)).trans h1)

/-- What NextPrime answers. -/
def NP (n p c : Nat) : Prop :=
  (c = 0 ∧ isPr p = true ∧ n < p ∧ p < 2147483648 ∧ ∀ k, n < k → k < p → isPr k = false) ∨
  (c = 4 ∧ p = 0 ∧ ∀ k, n < k → k < 2147483648 → isPr k = false)

theorem np_of_seg {n t : Nat} {p : Nat} (h : Seg (n + 1) t [p]) (hp : p < 2147483648) : NP n p 0 := by
  obtain ⟨a, b, c, d⟩ := h.one [] p [] rfl
  rw [lo_nil] at b d
  exact .inl ⟨rfl, a, by omega, hp, fun k h1 h2 => d k (by omega) h2⟩

theorem np_of_none {n t : Nat} (h : Seg (n + 1) t []) (ht : 2147483648 ≤ t) : NP n 0 4 := by
  have := h.rest
  rw [lo_nil] at this
  exact .inr ⟨rfl, rfl, fun k h1 h2 => this.2 k (by omega) (by omega)⟩

set_option maxHeartbeats 1000000 in
theorem primes_calls (fr : Nat) (w : World) :
    Calls Tryd.prog 27 #[.int .u32 fr] w fun e w' => e = .returned (.func (.func 52) #[] #[.pointer (some ⟨w.heap.size, 0, none⟩)]) ∧ w' = w.alloc (.cells #[.int .u32 fr] 22) := by
  go_enter Tryd.func27, Tryd.ntmps27
  go_wp2_with fail
  go_ret
  exact ⟨rfl, rfl⟩

set_option maxRecDepth 100000 in
set_option maxHeartbeats 4000000 in
theorem next_big (n : Nat) (h : 2147483648 ≤ n) (w : World) :
    Calls Tryd.prog 26 #[.int .u32 n] w fun e w' => (∃ p c, e = .returned (.tuple #[.int .u32 (p : Nat), .int .i64 (c : Nat)]) ∧ NP n p c) ∧ Below w.heap.size w w' := by
  have HN : Hid (NP n 0 4) := Lib.hid (.inr ⟨rfl, rfl, fun k h1 h2 => by omega⟩)
  have g1 : (2147483648 : Int) ≤ n := by omega
  clear h
  go_enter Tryd.func26, Tryd.ntmps26
  go_wp2_with fail
  refine bodyPost_ret (v := .tuple #[.int .u32 0, .int .i64 4]) ?_ rfl ?_
  · simp [results, Tryd.f26, go_sem]
  · exact ⟨⟨0, 4, rfl, HN.out⟩, ((Below.refl _ w).alloc (Nat.le_refl _) _).alloc (by simp) _⟩

theorem cell_new_l (W : World) (v : Value) (t : TypeId) : (W.alloc (.cells #[v] t)).cell? ⟨W.heap.size, 0, none⟩ = some v ∧ (W.alloc (.cells #[v] t)).frozen? ⟨W.heap.size, 0, none⟩ = false := ⟨by simp, by simp⟩
theorem cell_alloc_l {W : World} {a : Addr} {v : Value} (o : Obj) (h : W.cell? a = some v) : (W.alloc o).cell? a = some v := cell_kept h (World.grownBy_alloc W o none) (fun r e => by cases e)
theorem frozen_alloc_l {W : World} {a : Addr} {v : Value} (o : Obj) (h : W.cell? a = some v) (hf : W.frozen? a = false) : (W.alloc o).frozen? a = false := (frozen_kept h (World.grownBy_alloc W o none) (fun r e => by cases e)).trans hf

set_option maxRecDepth 100000 in
set_option maxHeartbeats 4000000 in
theorem next_small (n : Nat) (h : n < 2147483648) (w : World) (hT : TzTab w) :
    CallsIn Fence.wide 6 Tryd.prog 26 #[.int .u32 n] w fun e w' => (∃ p c, e = .returned (.tuple #[.int .u32 (p : Nat), .int .i64 (c : Nat)]) ∧ NP n p c) ∧ Below w.heap.size w w' := by
  have HH := Lib.hid h
  have HT := Lib.hid hT
  have g1 : ¬ (2147483648 : Int) ≤ (n : Int) := by omega
  have e1 : Hid (((n : Int) + 1) = ((n + 1 : Nat) : Int)) := Lib.hid (by omega)
  clear h hT
  refine callsIn_of_wp_marks Tryd.func26 rfl trivial ?_ rfl
  simp only [Tryd.ntmps26, List.size_toArray, List.length_cons, List.length_nil, Nat.reduceAdd, Nat.reduceSub, Array.replicate_succ, Array.replicate_zero, List.push_toArray, List.append_toArray, List.nil_append, List.cons_append]
  gi_wp2_with fail
  rw [e1.out]
  refine ⟨trivial, (callsIn_wide.2 (primes_calls _ _)).mono ?_⟩
  rintro e w1 ⟨rfl, rfl⟩
  try simp only []
  gi_wp2_with fail
  have c0 := cell_new_l w (.int .u32 0) 22
  have c1 := cell_new_l (w.alloc (.cells #[.int .u32 0] 22)) (.int .i64 0) 32
  have c2 := cell_new_l ((w.alloc (.cells #[.int .u32 0] 22)).alloc (.cells #[.int .i64 0] 32)) (.int .u32 ((n + 1 : Nat) : Int)) 22
  have hB0 : Below w.heap.size w (((w.alloc (.cells #[.int .u32 0] 22)).alloc (.cells #[.int .i64 0] 32)).alloc (.cells #[.int .u32 ((n + 1 : Nat) : Int)] 22)) := (((Below.refl _ w).alloc (Nat.le_refl _) _).alloc (by simp) _).alloc (by simp; omega) _
  simp only [World.size_alloc] at c1 c2 ⊢
  refine wpIn_rangeFunc_ownF rfl (by decide) (gf := 52) (lb := #[.pointer (some ⟨w.heap.size + 1 + 1, 0, none⟩)]) rfl trivial (enters_of Tryd.func52 (by kernel_rfl) rfl)
    (primes_stops 5 (w.heap.size + 1 + 1) (n + 1) w _ (by have := HH.out; omega) (by simp) c2.1 HT.out hB0) belowK_t (belowK_b (by simp; omega)) (Below.refl _ _) (fun _ => rfl)
    (fun pre W => (pre = [] ∧ W.cell? ⟨w.heap.size, 0, none⟩ = some (.int .u32 0) ∧ W.frozen? ⟨w.heap.size, 0, none⟩ = false ∧ W.cell? ⟨w.heap.size + 1, 0, none⟩ = some (.int .i64 0) ∧ W.frozen? ⟨w.heap.size + 1, 0, none⟩ = false) ∧ Below w.heap.size w W)
    (fun c pre W => (c = .ret ∧ ∃ x : U31, pre = [x] ∧ W.cell? ⟨w.heap.size, 0, none⟩ = some (.int .u32 x.1) ∧ W.cell? ⟨w.heap.size + 1, 0, none⟩ = some (.int .i64 0)) ∧ Below w.heap.size w W)
    (OwnFrom.and (Own.from (fun s A B row hs hg hr => ⟨hs.1, cell_kept hs.2.1 hg hr, (frozen_kept hs.2.1 hg hr).trans hs.2.2.1, cell_kept hs.2.2.2.1 hg hr, (frozen_kept hs.2.2.2.1 hg hr).trans hs.2.2.2.2⟩) _) (ownFrom_below (Nat.le_refl _) (by simp; omega)))
    (fun c => OwnFrom.and (Own.from (fun s A B row hs hg hr => by obtain ⟨a, x, b, c, d⟩ := hs; exact ⟨a, x, b, cell_kept c hg hr, cell_kept d hg hr⟩) _) (ownFrom_below (Nat.le_refl _) (by simp; omega)))
    ⟨⟨rfl, cell_alloc_l _ (cell_alloc_l _ c0.1), frozen_alloc_l _ (cell_alloc_l _ c0.1) (frozen_alloc_l _ c0.1 c0.2), cell_alloc_l _ c1.1, frozen_alloc_l _ c1.1 c1.2⟩, hB0⟩
    (fun x => { tmps := #[.int .u32 n, undef, .pointer (some ⟨w.heap.size, 0, none⟩), .pointer (some ⟨w.heap.size + 1, 0, none⟩), .int .u32 x.1, .int .u32 n, .bool false, .int .u32 n, .int .u32 ((n + 1 : Nat) : Int), .func (.func 52) #[] #[.pointer (some ⟨w.heap.size + 1 + 1, 0, none⟩)], .int .u32 x.1, undef], defers := [] }) ?assign ?body ?done ?stop
  case assign =>
    intro l x W K hK
    gi_wp2_with fail
    exact hK
  case body =>
    rintro l pre x W ⟨⟨rfl, hc0, hf0, hc1, hf1⟩, hB⟩ _
    have HB := Lib.hid hB
    clear hB
    gi_wp2_with fail
    refine ⟨(KeepsOthers.setCell _ _ _).trans (KeepsOthers.setCell _ _ _), ⟨rfl, x, rfl, ?_, ?_⟩, (HB.out.setCell (p := ⟨w.heap.size, 0, none⟩) (Nat.le_refl _) _).setCell (p := ⟨w.heap.size + 1, 0, none⟩) (by simp) _⟩
    · exact two_cells0 hc0 hc1
    · exact two_cells1 hc0 hc1
  case done =>
    rintro D ys W hD ⟨t, ht, hs⟩ ⟨⟨rfl, hc0, hf0, hc1, hf1⟩, hB⟩ hK
    have HB := Lib.hid hB
    have HD := Lib.hid hD
    have HK := Lib.hid hK
    have HS := Lib.hid hs
    have HL := Lib.hid ht
    clear hB hD hK hs ht
    gi_wp2_with fail
    have k1 := KeepsOthers.setCell W ⟨w.heap.size, 0, none⟩ (.int .u32 0)
    have k2 := KeepsOthers.setCell (W.setCell ⟨w.heap.size, 0, none⟩ (.int .u32 0)) ⟨w.heap.size + 1, 0, none⟩ (.int .i64 4)
    have hK' := (k1.trans k2).same D _ HK.out rfl
    have b1 := (HB.out.setCell (p := ⟨w.heap.size, 0, none⟩) (Nat.le_refl _) (.int .u32 0)).setCell (p := ⟨w.heap.size + 1, 0, none⟩) (by simp) (.int .i64 4)
    refine ⟨by simp, .inl ⟨_, _, rfl, run_takeDeferred hK', ?_⟩⟩
    have d0 := cell_kept (show ((W.setCell ⟨w.heap.size, 0, none⟩ (.int .u32 0)).setCell ⟨w.heap.size + 1, 0, none⟩ (.int .i64 4)).cell? ⟨w.heap.size, 0, none⟩ = some (.int .u32 0) from two_cells0 hc0 hc1) (grownBy_putObj' _ D (.deferred none)) (fun r e => by cases e; exact ⟨_, hK', rfl⟩)
    have d1 := cell_kept (show ((W.setCell ⟨w.heap.size, 0, none⟩ (.int .u32 0)).setCell ⟨w.heap.size + 1, 0, none⟩ (.int .i64 4)).cell? ⟨w.heap.size + 1, 0, none⟩ = some (.int .i64 4) from two_cells1 hc0 hc1) (grownBy_putObj' _ D (.deferred none)) (fun r e => by cases e; exact ⟨_, hK', rfl⟩)
    refine ⟨.tuple #[.int .u32 0, .int .i64 4], ?_, ⟨0, 4, rfl, np_of_none HS.out HL.out⟩, b1.trans (belowK_b (w := w) (Nat.le_refl _) _ D _ _ (by have := HD.out; simp at this; omega) hK' rfl rfl)⟩
    simp [results, Tryd.f26, go_sem, d0, d1]
  case stop =>
    rintro D c pre W hD ⟨t, hs⟩ ⟨⟨rfl, x, rfl, hc0, hc1⟩, hB⟩ hK
    have HB := Lib.hid hB
    have HD := Lib.hid hD
    have HK := Lib.hid hK
    have HS := Lib.hid hs
    clear hB hD hK hs
    gi_wp2_with fail
    refine ⟨by simp, .inl ⟨_, _, rfl, run_takeDeferred HK.out, ?_⟩⟩
    have d0 := cell_kept hc0 (grownBy_putObj' _ D (.deferred none)) (fun r e => by cases e; exact ⟨_, HK.out, rfl⟩)
    have d1 := cell_kept hc1 (grownBy_putObj' _ D (.deferred none)) (fun r e => by cases e; exact ⟨_, HK.out, rfl⟩)
    refine ⟨.tuple #[.int .u32 x.1, .int .i64 0], ?_, ⟨x.1, 0, rfl, np_of_seg HS.out x.2⟩, HB.out.trans (belowK_b (w := w) (Nat.le_refl _) W D _ _ (by have := HD.out; simp at this; omega) HK.out rfl rfl)⟩
    simp [results, Tryd.f26, go_sem, d0, d1]

theorem next_calls (n : Nat) (w : World) (hT : TzTab w) :
    Calls Tryd.prog 26 #[.int .u32 n] w fun e w' => (∃ p c, e = .returned (.tuple #[.int .u32 (p : Nat), .int .i64 (c : Nat)]) ∧ NP n p c) ∧ Below w.heap.size w w' := by
  by_cases h : n < 2147483648
  · exact callsIn_wide.1 (next_small n h w hT)
  · exact next_big n (by omega) w

end Go.Proofs.YtgmooidagkbheaaDoor
