/-
  cylinderlaw07.ModularSequence returns true at every input: the walk.
-/
import Derived.Test.YtgmooidagkbheaaDoorNext
namespace Go.Proofs.YtgmooidagkbheaaDoor
open Go.RowKit Go.Shelf
set_option linter.unusedVariables false
attribute [local go_sem] Oper.semAt_some

theorem np_unique {n p c p' c' : Nat} (h : NP n p c) (h' : NP n p' c') : p = p' ∧ c = c' := by
  rcases h with ⟨rfl, a1, a2, a3, a4⟩ | ⟨rfl, rfl, a4⟩ <;> rcases h' with ⟨rfl, b1, b2, b3, b4⟩ | ⟨rfl, rfl, b4⟩
  · refine ⟨?_, rfl⟩
    rcases Nat.lt_trichotomy p p' with h | h | h
    · exact absurd (b4 p a2 h) (by rw [a1]; decide)
    · exact h
    · exact absurd (a4 p' b2 h) (by rw [b1]; decide)
  · exact absurd (b4 p a2 a3) (by rw [a1]; decide)
  · exact absurd (a4 p' b2 b3) (by rw [b1]; decide)
  · exact ⟨rfl, rfl⟩

theorem isPr_zero : isPr 0 = false := by rw [isPr, if_pos (by decide)]
theorem isPr_one : isPr 1 = false := by rw [isPr, if_pos (by decide)]

namespace sequence
/-- What the law takes for the last one ahead of the first. -/
def start (f : Nat) : Nat := if 2 < f then f - 1 else 1
/-- The last one that has come. -/
def last (f : Nat) (pre : List U31) : Nat := (pre.getLast?.map (·.1)).getD (start f)

theorem last_nil (f : Nat) : last f [] = start f := rfl
theorem last_snoc (f : Nat) (pre : List U31) (x : U31) : last f (pre ++ [x]) = x.1 := by simp [last]

/-- Above the last one and above the place where the next may lie there are the same primes. -/
theorem above (f : Nat) (pre : List U31) (k : Nat) (hk : isPr k = true) : lo f (pre.map (·.1)) ≤ k ↔ last f pre < k := by
  rcases List.eq_nil_or_concat pre with rfl | ⟨q, y, rfl⟩
  · rw [List.map_nil, lo_nil, last_nil, start]
    have h0 : k ≠ 0 := by rintro rfl; rw [isPr_zero] at hk; cases hk
    have h1 : k ≠ 1 := by rintro rfl; rw [isPr_one] at hk; cases hk
    split <;> omega
  · rw [List.concat_eq_append, List.map_append, List.map_cons, List.map_nil, lo_snoc, last_snoc]
    omega

theorem np_of_pre {f t : Nat} {pre : List U31} {x : U31} (h : Seg f t ((pre ++ [x]).map (·.1))) : NP (last f pre) x.1 0 := by
  obtain ⟨a, b, c, d⟩ := h.one (pre.map (·.1)) x.1 [] (by rw [List.map_append]; rfl)
  refine .inl ⟨rfl, a, (above f pre x.1 a).1 b, x.2, fun k h1 h2 => ?_⟩
  cases hk : isPr k with
  | false => rfl
  | true => exact absurd (d k ((above f pre k hk).2 h1) h2) (by rw [hk]; decide)

theorem np_of_all {f t : Nat} {pre : List U31} (h : Seg f t (pre.map (·.1))) (ht : 2147483648 ≤ t) : NP (last f pre) 0 4 := by
  refine .inr ⟨rfl, rfl, fun k h1 h2 => ?_⟩
  cases hk : isPr k with
  | false => rfl
  | true => exact absurd (h.rest.2 k ((above f pre k hk).2 h1) (by omega)) (by rw [hk]; decide)

theorem start_eq (f : Nat) (h : 2 < f) : start f = f - 1 := by unfold start; rw [if_pos h]
theorem start_one (f : Nat) (h : ¬ 2 < f) : start f = 1 := by unfold start; rw [if_neg h]
theorem and15 : ∀ n : Fin 256, Go.bits .and .u8 (n.1 : Int) 15 = ((n.1 % 16 : Nat) : Int) := by decide +kernel

/-- What the boxes hold between two rounds. -/
def Kept (w w1 : World) (f stop : Nat) (pre : List U31) (W : World) : Prop :=
  (Boxed W w.heap.size 4 (.bool false) ∧ Boxed W w1.heap.size 3 (.int .i64 (stop : Int)) ∧ Boxed W (w1.heap.size + 1) 22 (.int .u32 (last f pre : Nat)) ∧ Boxed W (w1.heap.size + 1 + 1) 3 (.int .i64 (pre.length : Nat)))
    ∧ Below w.heap.size w W ∧ Below w1.heap.size w1 W

theorem kept_own (w w1 : World) (f stop B : Nat) (h : w1.heap.size ≤ B) (h0 : w.heap.size ≤ w1.heap.size) : OwnFrom B (Kept w w1 f stop) :=
  OwnFrom.and (Own.from (fun s A C row hs hg hr => ⟨boxed_own _ _ (fun (_ : List U31) => .bool false) s A C row hs.1 hg hr, boxed_own _ _ (fun (_ : List U31) => .int .i64 (stop : Int)) s A C row hs.2.1 hg hr, boxed_own _ _ (fun (pre : List U31) => .int .u32 (last f pre : Nat)) s A C row hs.2.2.1 hg hr, boxed_own _ _ (fun (pre : List U31) => .int .i64 (pre.length : Nat)) s A C row hs.2.2.2 hg hr⟩) _)
    (OwnFrom.and (ownFrom_below (Nat.le_refl _) (by omega)) (ownFrom_below (Nat.le_refl _) h))

/-- How a round may leave the loop. -/
def Left (w w1 : World) (f stop : Nat) (c : Code) (pre : List U31) (W : World) : Prop :=
  (c = .ret ∧ ∃ q x, pre = q ++ [x] ∧ ¬ NP (last f q) x.1 0) ∨ (c = .exit 0 ∧ ∃ q x, pre = q ++ [x] ∧ q.length = stop ∧ Kept w w1 f stop q W)

theorem left_own (w w1 : World) (f stop B : Nat) (c : Code) (h : w1.heap.size ≤ B) (h0 : w.heap.size ≤ w1.heap.size) : OwnFrom B (Left w w1 f stop c) := by
  intro s A C row hs hg hr
  rcases hs with hs | ⟨a, q, x, b, d, e⟩
  · exact .inl hs
  · exact .inr ⟨a, q, x, b, d, kept_own w w1 f stop B h h0 q A C row e hg hr⟩

theorem next_last {f t : Nat} {pre : List U31} {p c : Nat} (h : Seg f t (pre.map (·.1))) (ht : 2147483648 ≤ t) (hp : NP (last f pre) p c) : p = 0 ∧ c = 4 := np_unique hp (np_of_all h ht)

set_option maxRecDepth 100000 in
set_option maxHeartbeats 8000000 in
theorem walk_in (f n : Nat) (hf : f < 4294967296) (hn : n < 256) (w : World) (hT : TzTab w) :
    CallsIn Fence.wide 8 Tryd.prog 8 #[.int .u32 f, .int .u8 n] w fun e w' => e = .returned (.bool true) ∧ Below w.heap.size w w' := by
  have HF := Lib.hid hf
  have HX := Lib.hid (fun n w hw => next_calls n w hw)
  obtain ⟨stop, hstop⟩ : ∃ stop, n % 16 = stop := ⟨_, rfl⟩
  have e1 : Go.bits .and .u8 (n : Int) 15 = (stop : Int) := by rw [← hstop]; exact and15 ⟨n, hn⟩
  have HS := Lib.hid (show stop < 16 by omega)
  have e2 : wrap64 (stop : Int) = (stop : Int) := by unfold wrap64; omega
  have hBa : Below w.heap.size w (w.alloc (.cells #[.bool false] 4)) := (Below.refl _ w).alloc (Nat.le_refl _) _
  have HA := Lib.hid hBa
  have HFit := Lib.hid (fit_calls (w.alloc (.cells #[.bool false] 4)) (hT.below hBa))
  have HT := Lib.hid (hT.below hBa)
  clear hf hstop hBa hT hn
  refine callsIn_of_wp_marks Tryd.func8 rfl trivial ?_ rfl
  simp only [Tryd.ntmps8, List.size_toArray, List.length_cons, List.length_nil, Nat.reduceAdd, Nat.reduceSub, Array.replicate_succ, Array.replicate_zero, List.push_toArray, List.append_toArray, List.nil_append, List.cons_append]
  gi_wp2_with fail
  refine ⟨trivial, (callsIn_wide.2 HFit.out).mono ?_⟩
  rintro e w1 ⟨rfl, hb1⟩
  have HBX := Lib.hid (show Boxed w1 w.heap.size 4 (.bool false) from (Boxed.new w _ _).kept (grown_below hb1) (by simp))
  have HB1 := Lib.hid (HA.out.trans (hb1.mono HA.out.size))
  have HT1 := Lib.hid (HT.out.below hb1)
  have HLT : Hid (w.heap.size < w1.heap.size) := Lib.hid HBX.out.lt
  clear hb1 HA HT HFit
  try simp only []
  by_cases h2 : 2 < f
  · have g2 : decide ((2 : Int) < (f : Int)) = true := decide_eq_true (by omega)
    have H2 := Lib.hid h2
    have w0 : ((f : Int) - 1) % 4294967296 = (f : Int) - 1 := by have := HF.out; omega
    clear h2
    gi_wp2_with fail
    try rw [e2]
    rw [show ((f : Int) - 1) = ((start f : Nat) : Int) from by rw [start_eq f H2.out]; have := H2.out; omega]
    refine ⟨trivial, (callsIn_wide.2 (primes_calls _ _)).mono ?_⟩
    rintro e w2 ⟨rfl, rfl⟩
    try simp only []
    clear e1 e2 g2 w0
    gi_wp2_with fail
    have k0 : Boxed (((w1.alloc (.cells #[.int .i64 (stop : Int)] 3)).alloc (.cells #[.int .u32 ((start f : Nat) : Int)] 22)).alloc (.cells #[.int .i64 0] 3)) (w1.heap.size + 1 + 1) 3 (.int .i64 0) := by
      have := Boxed.new ((w1.alloc (.cells #[.int .i64 (stop : Int)] 3)).alloc (.cells #[.int .u32 ((start f : Nat) : Int)] 22)) 3 (.int .i64 0)
      simpa using this
    have k1 : Boxed ((w1.alloc (.cells #[.int .i64 (stop : Int)] 3)).alloc (.cells #[.int .u32 ((start f : Nat) : Int)] 22)) (w1.heap.size + 1) 22 (.int .u32 ((start f : Nat) : Int)) := by
      have := Boxed.new (w1.alloc (.cells #[.int .i64 (stop : Int)] 3)) 22 (.int .u32 ((start f : Nat) : Int))
      simpa using this
    have k2 := Boxed.new w1 3 (.int .i64 (stop : Int))
    have k3 : Below w1.heap.size w1 ((((w1.alloc (.cells #[.int .i64 (stop : Int)] 3)).alloc (.cells #[.int .u32 ((start f : Nat) : Int)] 22)).alloc (.cells #[.int .i64 0] 3)).alloc (.cells #[.int .u32 (f : Int)] 22)) :=
      ((((Below.refl _ w1).alloc (Nat.le_refl _) _).alloc (by simp) _).alloc (by simp; omega) _).alloc (by simp; omega) _
    have k4 := cell_new_l ((((w1.alloc (.cells #[.int .i64 (stop : Int)] 3)).alloc (.cells #[.int .u32 ((start f : Nat) : Int)] 22)).alloc (.cells #[.int .i64 0] 3))) (.int .u32 (f : Int)) 22
    have k5 : Kept w w1 f stop [] ((((w1.alloc (.cells #[.int .i64 (stop : Int)] 3)).alloc (.cells #[.int .u32 ((start f : Nat) : Int)] 22)).alloc (.cells #[.int .i64 0] 3)).alloc (.cells #[.int .u32 (f : Int)] 22)) :=
      ⟨⟨(((HBX.out.alloc _).alloc _).alloc _).alloc _, ((k2.alloc _).alloc _).alloc _, (k1.alloc _).alloc _, k0.alloc _⟩, HB1.out.trans (k3.mono HB1.out.size), k3⟩
    simp only [World.size_alloc] at k4 ⊢
    refine wpIn_rangeFunc_ownF rfl (by decide) (gf := 52) (lb := #[.pointer (some ⟨w1.heap.size + 1 + 1 + 1, 0, none⟩)]) rfl trivial (enters_of Tryd.func52 (by kernel_rfl) rfl)
      (primes_stops 7 (w1.heap.size + 1 + 1 + 1) f w1 _ HF.out (by simp) k4.1 HT1.out k3) belowK_t (belowK_b (by simp; omega)) (Below.refl _ _) (fun _ => rfl)
      (Kept w w1 f stop) (Left w w1 f stop)
      (kept_own w w1 f stop _ (by simp; omega) (Nat.le_of_lt HLT.out)) (fun c => left_own w w1 f stop _ c (by simp; omega) (Nat.le_of_lt HLT.out)) k5
      (fun x => { tmps := #[.int .u32 f, .int .u8 n, undef, undef, .pointer (some ⟨w.heap.size, 0, none⟩), .pointer (some ⟨w1.heap.size, 0, none⟩), .pointer (some ⟨w1.heap.size + 1, 0, none⟩), .pointer (some ⟨w1.heap.size + 1 + 1, 0, none⟩), .int .u32 x.1, undef, undef, undef, undef, .bool true, .bool false, .int .u8 n, .int .u8 stop, .int .i64 stop, .int .u32 f, .bool true, .int .u32 f, .int .u32 ((start f : Nat) : Int), .int .u32 f, .func (.func 52) #[] #[.pointer (some ⟨w1.heap.size + 1 + 1 + 1, 0, none⟩)], .int .u32 x.1, undef, undef, undef, undef, undef, undef, undef, undef, undef, undef, undef, undef, undef, undef, undef, undef, undef, undef, undef, undef, undef, undef, undef, undef, undef, undef, undef, undef, undef, undef], defers := [] }) ?assign ?body ?done ?stop
    case assign =>
      intro l x W K hK
      gi_wp2_with fail
      exact hK
    case body =>
      clear k0 k1 k2 k3 k4 k5
      rintro l pre x W ⟨⟨q0, q1, q2, q3⟩, hB0, hB1⟩ hlen
      have HLEN := Lib.hid hlen
      clear hlen
      have c0 := q0.cell
      have c1 := q1.cell
      have c2 := q2.cell
      have c3 := q3.cell
      have f0 := q0.frozen
      have f2 := q2.frozen
      have f3 := q3.frozen
      have Q0 := Lib.hid q0
      have Q1 := Lib.hid q1
      have Q2 := Lib.hid q2
      have Q3 := Lib.hid q3
      have B0 := Lib.hid hB0
      have B1 := Lib.hid hB1
      clear q0 q1 q2 q3 hB0 hB1
      by_cases hs : pre.length = stop
      · have g5 : ((pre.length : Int) == (stop : Int)) = true := by rw [hs]; simp
        have GL := Lib.hid hs
        clear hs
        gi_wp2_with fail
        exact ⟨KeepsOthers.refl _, .inr ⟨rfl, pre, x, rfl, GL.out, ⟨Q0.out, Q1.out, Q2.out, Q3.out⟩, B0.out, B1.out⟩⟩
      · have g5 : ((pre.length : Int) == (stop : Int)) = false := by simp; omega
        clear hs
        have HY := Lib.hid (HX.out (last f pre) W (HT1.out.below B1.out))
        gi_wp2_with fail
        refine ⟨trivial, (CallsIn.inRound l (callsIn_wide.2 HY.out)).mono ?_⟩
        rintro e W2 ⟨⟨p, c, rfl, hnp⟩, hb⟩
        have R0 := Q0.out.kept (grown_below hb) (by simp)
        have R1 := Q1.out.kept (grown_below hb) (by simp)
        have R2 := Q2.out.kept (grown_below hb) (by simp)
        have R3 := Q3.out.kept (grown_below hb) (by simp)
        have C0 := Lib.hid (B0.out.trans (hb.mono B0.out.size))
        have C1 := Lib.hid (B1.out.trans (hb.mono B1.out.size))
        have KO := Lib.hid (KeepsOthers.of_grownBy (grown_below hb) (by simp))
        have BW := Lib.hid (hb.mono B1.out.size)
        have d0 := R0.cell
        have d1 := R1.cell
        have d2 := R2.cell
        have d3 := R3.cell
        have h0 := R0.frozen
        have h2 := R2.frozen
        have h3 := R3.frozen
        have P0 := Lib.hid R0
        have P1 := Lib.hid R1
        have P2 := Lib.hid R2
        have P3 := Lib.hid R3
        have HNP := Lib.hid hnp
        clear R0 R1 R2 R3 hb c0 c1 c2 c3 f0 f2 f3
        have hc04 : c = 0 ∨ c = 4 := by
          rcases hnp with h | h
          · exact .inl h.1
          · exact .inr h.1
        clear hnp
        rcases hc04 with rfl | rfl
        · by_cases hx : x.1 = p
          · subst hx
            have e3 : wrap64 ((pre.length : Int) + 1) = (pre.length : Int) + 1 := by have := HLEN.out; unfold wrap64; omega
            gi_wp2_with fail
            refine ⟨(KO.out.trans (KeepsOthers.setCell _ _ _)).trans (KeepsOthers.setCell _ _ _), (BW.out.setCell (p := ⟨w1.heap.size + 1, 0, none⟩) (by simp) _).setCell (p := ⟨w1.heap.size + 1 + 1, 0, none⟩) (by simp; omega) _, ⟨?_, ?_, ?_, ?_⟩, ?_, ?_⟩
            · exact (P0.out.other (by have := HLT.out; omega) _).other (by have := HLT.out; omega) _
            · exact (P1.out.other (by omega) _).other (by omega) _
            · rw [last_snoc]
              exact (P2.out.set _).other (by omega) _
            · rw [List.length_append, List.length_singleton, show ((pre.length + 1 : Nat) : Int) = (pre.length : Int) + 1 from by omega]
              exact (P3.out.other (by omega) _).set _
            · exact (C0.out.setCell (p := ⟨w1.heap.size + 1, 0, none⟩) (by have := HLT.out; simp; omega) _).setCell (p := ⟨w1.heap.size + 1 + 1, 0, none⟩) (by have := HLT.out; simp; omega) _
            · exact (C1.out.setCell (p := ⟨w1.heap.size + 1, 0, none⟩) (by simp) _).setCell (p := ⟨w1.heap.size + 1 + 1, 0, none⟩) (by simp; omega) _
          · have g6 : ((x.1 : Int) == (p : Int)) = false := by simp; omega
            have HNE := Lib.hid hx
            clear hx
            gi_wp2_with fail
            exact ⟨KO.out.trans (KeepsOthers.setCell _ _ _), .inl ⟨rfl, pre, x, rfl, fun hh => HNE.out (np_unique hh HNP.out).1⟩⟩
        · gi_wp2_with fail
          exact ⟨KO.out.trans (KeepsOthers.setCell _ _ _), .inl ⟨rfl, pre, x, rfl, fun hh => by have := (np_unique hh HNP.out).2; omega⟩⟩
    case done =>
      clear k0 k1 k2 k3 k4 k5
      rintro D ys W hD ⟨t, ht, hsg⟩ ⟨⟨q0, q1, q2, q3⟩, hB0, hB1⟩ hK
      have HSG := Lib.hid hsg
      have HTT := Lib.hid ht
      clear hsg ht
      have c0 := q0.cell
      have c1 := q1.cell
      have c2 := q2.cell
      have c3 := q3.cell
      have f0 := q0.frozen
      have Q0 := Lib.hid q0
      have Q1 := Lib.hid q1
      have Q3 := Lib.hid q3
      have B0 := Lib.hid hB0
      have B1 := Lib.hid hB1
      have HK := Lib.hid hK
      have HD := Lib.hid hD
      clear q0 q1 q2 q3 hB0 hB1 hK hD
      have HY := Lib.hid (HX.out (last f ys) W (HT1.out.below B1.out))
      gi_wp2_with fail
      refine ⟨trivial, (callsIn_wide.2 HY.out).mono ?_⟩
      rintro e W2 ⟨⟨p, c, rfl, hnp⟩, hb⟩
      have R0 := Q0.out.kept (grown_below hb) (by simp)
      have R1 := Q1.out.kept (grown_below hb) (by simp)
      have R3 := Q3.out.kept (grown_below hb) (by simp)
      have C0 := Lib.hid (B0.out.trans (hb.mono B0.out.size))
      have KO := Lib.hid (KeepsOthers.of_grownBy (grown_below hb) (by simp))
      have d0 := R0.cell
      have d1 := R1.cell
      have d3 := R3.cell
      have h0 := R0.frozen
      have P0 := Lib.hid R0
      obtain ⟨rfl, rfl⟩ := next_last HSG.out HTT.out hnp
      clear R0 R1 R3 hb c0 c1 c2 c3 f0 hnp
      try simp only []
      gi_wp2_with fail
      all_goals
        have hK' := (KO.out.trans (KeepsOthers.setCell _ ⟨w.heap.size, 0, none⟩ (.bool true))).same D _ HK.out rfl
        refine ⟨by simp, .inl ⟨_, _, rfl, run_takeDeferred hK', ?_⟩⟩
        have d5 := cell_kept (P0.out.set (.bool true)).cell (grownBy_putObj' _ D (.deferred none)) (fun r e => by cases e; exact ⟨_, hK', rfl⟩)
        refine ⟨.bool true, ?_, rfl, (C0.out.setCell (p := ⟨w.heap.size, 0, none⟩) (Nat.le_refl _) _).trans (belowK_b (w := w) (Nat.le_refl _) _ D _ _ (by have h1 := HD.out; have h2 := HLT.out; simp at h1; omega) hK' rfl rfl)⟩
        simp [results, Tryd.f8, go_sem, d5]
    case stop =>
      clear k0 k1 k2 k3 k4 k5
      rintro D c pre W hD ⟨t, hsg⟩ hL hK
      rcases hL with ⟨rfl, q, x, rfl, hbad⟩ | ⟨rfl, q, x, rfl, hq, ⟨q0, q1, q2, q3⟩, hB0, hB1⟩
      · exact absurd (np_of_pre hsg) hbad
      clear hsg
      have g5 : ((q.length : Int) == (stop : Int)) = true := by rw [hq]; simp
      clear hq
      have c0 := q0.cell
      have c1 := q1.cell
      have c2 := q2.cell
      have c3 := q3.cell
      have f0 := q0.frozen
      have Q0 := Lib.hid q0
      have Q1 := Lib.hid q1
      have Q3 := Lib.hid q3
      have B0 := Lib.hid hB0
      have B1 := Lib.hid hB1
      have HK := Lib.hid hK
      have HD := Lib.hid hD
      clear q0 q1 q2 q3 hB0 hB1 hK hD
      have HY := Lib.hid (HX.out (last f q) W (HT1.out.below B1.out))
      gi_wp2_with fail
      refine ⟨trivial, (callsIn_wide.2 HY.out).mono ?_⟩
      rintro e W2 ⟨⟨p, c, rfl, hnp⟩, hb⟩
      have R0 := Q0.out.kept (grown_below hb) (by simp)
      have R1 := Q1.out.kept (grown_below hb) (by simp)
      have R3 := Q3.out.kept (grown_below hb) (by simp)
      have C0 := Lib.hid (B0.out.trans (hb.mono B0.out.size))
      have KO := Lib.hid (KeepsOthers.of_grownBy (grown_below hb) (by simp))
      have d0 := R0.cell
      have d1 := R1.cell
      have d3 := R3.cell
      have h0 := R0.frozen
      have P0 := Lib.hid R0
      clear R0 R1 R3 hb c0 c1 c2 c3 f0 hnp
      try simp only []
      gi_wp2_with fail
      all_goals
        have hK' := (KO.out.trans (KeepsOthers.setCell _ ⟨w.heap.size, 0, none⟩ (.bool true))).same D _ HK.out rfl
        refine ⟨by simp, .inl ⟨_, _, rfl, run_takeDeferred hK', ?_⟩⟩
        have d5 := cell_kept (P0.out.set (.bool true)).cell (grownBy_putObj' _ D (.deferred none)) (fun r e => by cases e; exact ⟨_, hK', rfl⟩)
        refine ⟨.bool true, ?_, rfl, (C0.out.setCell (p := ⟨w.heap.size, 0, none⟩) (Nat.le_refl _) _).trans (belowK_b (w := w) (Nat.le_refl _) _ D _ _ (by have h1 := HD.out; have h2 := HLT.out; simp at h1; omega) hK' rfl rfl)⟩
        simp [results, Tryd.f8, go_sem, d5]
  · have g2 : decide ((2 : Int) < (f : Int)) = false := decide_eq_false (by omega)
    have H2 := Lib.hid h2
    clear h2
    gi_wp2_with fail
    try rw [e2]
    rw [show (1 : Int) = ((start f : Nat) : Int) from by rw [start_one f H2.out]; have := H2.out; omega]
    refine ⟨trivial, (callsIn_wide.2 (primes_calls _ _)).mono ?_⟩
    rintro e w2 ⟨rfl, rfl⟩
    try simp only []
    clear e1 e2 g2
    gi_wp2_with fail
    have k0 : Boxed (((w1.alloc (.cells #[.int .i64 (stop : Int)] 3)).alloc (.cells #[.int .u32 ((start f : Nat) : Int)] 22)).alloc (.cells #[.int .i64 0] 3)) (w1.heap.size + 1 + 1) 3 (.int .i64 0) := by
      have := Boxed.new ((w1.alloc (.cells #[.int .i64 (stop : Int)] 3)).alloc (.cells #[.int .u32 ((start f : Nat) : Int)] 22)) 3 (.int .i64 0)
      simpa using this
    have k1 : Boxed ((w1.alloc (.cells #[.int .i64 (stop : Int)] 3)).alloc (.cells #[.int .u32 ((start f : Nat) : Int)] 22)) (w1.heap.size + 1) 22 (.int .u32 ((start f : Nat) : Int)) := by
      have := Boxed.new (w1.alloc (.cells #[.int .i64 (stop : Int)] 3)) 22 (.int .u32 ((start f : Nat) : Int))
      simpa using this
    have k2 := Boxed.new w1 3 (.int .i64 (stop : Int))
    have k3 : Below w1.heap.size w1 ((((w1.alloc (.cells #[.int .i64 (stop : Int)] 3)).alloc (.cells #[.int .u32 ((start f : Nat) : Int)] 22)).alloc (.cells #[.int .i64 0] 3)).alloc (.cells #[.int .u32 (f : Int)] 22)) :=
      ((((Below.refl _ w1).alloc (Nat.le_refl _) _).alloc (by simp) _).alloc (by simp; omega) _).alloc (by simp; omega) _
    have k4 := cell_new_l ((((w1.alloc (.cells #[.int .i64 (stop : Int)] 3)).alloc (.cells #[.int .u32 ((start f : Nat) : Int)] 22)).alloc (.cells #[.int .i64 0] 3))) (.int .u32 (f : Int)) 22
    have k5 : Kept w w1 f stop [] ((((w1.alloc (.cells #[.int .i64 (stop : Int)] 3)).alloc (.cells #[.int .u32 ((start f : Nat) : Int)] 22)).alloc (.cells #[.int .i64 0] 3)).alloc (.cells #[.int .u32 (f : Int)] 22)) :=
      ⟨⟨(((HBX.out.alloc _).alloc _).alloc _).alloc _, ((k2.alloc _).alloc _).alloc _, (k1.alloc _).alloc _, k0.alloc _⟩, HB1.out.trans (k3.mono HB1.out.size), k3⟩
    simp only [World.size_alloc] at k4 ⊢
    refine wpIn_rangeFunc_ownF rfl (by decide) (gf := 52) (lb := #[.pointer (some ⟨w1.heap.size + 1 + 1 + 1, 0, none⟩)]) rfl trivial (enters_of Tryd.func52 (by kernel_rfl) rfl)
      (primes_stops 7 (w1.heap.size + 1 + 1 + 1) f w1 _ HF.out (by simp) k4.1 HT1.out k3) belowK_t (belowK_b (by simp; omega)) (Below.refl _ _) (fun _ => rfl)
      (Kept w w1 f stop) (Left w w1 f stop)
      (kept_own w w1 f stop _ (by simp; omega) (Nat.le_of_lt HLT.out)) (fun c => left_own w w1 f stop _ c (by simp; omega) (Nat.le_of_lt HLT.out)) k5
      (fun x => { tmps := #[.int .u32 f, .int .u8 n, undef, undef, .pointer (some ⟨w.heap.size, 0, none⟩), .pointer (some ⟨w1.heap.size, 0, none⟩), .pointer (some ⟨w1.heap.size + 1, 0, none⟩), .pointer (some ⟨w1.heap.size + 1 + 1, 0, none⟩), .int .u32 x.1, undef, undef, undef, undef, .bool true, .bool false, .int .u8 n, .int .u8 stop, .int .i64 stop, .int .u32 f, .bool false, undef, undef, .int .u32 f, .func (.func 52) #[] #[.pointer (some ⟨w1.heap.size + 1 + 1 + 1, 0, none⟩)], .int .u32 x.1, undef, undef, undef, undef, undef, undef, undef, undef, undef, undef, undef, undef, undef, undef, undef, undef, undef, undef, undef, undef, undef, undef, undef, undef, undef, undef, undef, undef, undef, undef], defers := [] }) ?assign ?body ?done ?stop
    case assign =>
      intro l x W K hK
      gi_wp2_with fail
      exact hK
    case body =>
      clear k0 k1 k2 k3 k4 k5
      rintro l pre x W ⟨⟨q0, q1, q2, q3⟩, hB0, hB1⟩ hlen
      have HLEN := Lib.hid hlen
      clear hlen
      have c0 := q0.cell
      have c1 := q1.cell
      have c2 := q2.cell
      have c3 := q3.cell
      have f0 := q0.frozen
      have f2 := q2.frozen
      have f3 := q3.frozen
      have Q0 := Lib.hid q0
      have Q1 := Lib.hid q1
      have Q2 := Lib.hid q2
      have Q3 := Lib.hid q3
      have B0 := Lib.hid hB0
      have B1 := Lib.hid hB1
      clear q0 q1 q2 q3 hB0 hB1
      by_cases hs : pre.length = stop
      · have g5 : ((pre.length : Int) == (stop : Int)) = true := by rw [hs]; simp
        have GL := Lib.hid hs
        clear hs
        gi_wp2_with fail
        exact ⟨KeepsOthers.refl _, .inr ⟨rfl, pre, x, rfl, GL.out, ⟨Q0.out, Q1.out, Q2.out, Q3.out⟩, B0.out, B1.out⟩⟩
      · have g5 : ((pre.length : Int) == (stop : Int)) = false := by simp; omega
        clear hs
        have HY := Lib.hid (HX.out (last f pre) W (HT1.out.below B1.out))
        gi_wp2_with fail
        refine ⟨trivial, (CallsIn.inRound l (callsIn_wide.2 HY.out)).mono ?_⟩
        rintro e W2 ⟨⟨p, c, rfl, hnp⟩, hb⟩
        have R0 := Q0.out.kept (grown_below hb) (by simp)
        have R1 := Q1.out.kept (grown_below hb) (by simp)
        have R2 := Q2.out.kept (grown_below hb) (by simp)
        have R3 := Q3.out.kept (grown_below hb) (by simp)
        have C0 := Lib.hid (B0.out.trans (hb.mono B0.out.size))
        have C1 := Lib.hid (B1.out.trans (hb.mono B1.out.size))
        have KO := Lib.hid (KeepsOthers.of_grownBy (grown_below hb) (by simp))
        have BW := Lib.hid (hb.mono B1.out.size)
        have d0 := R0.cell
        have d1 := R1.cell
        have d2 := R2.cell
        have d3 := R3.cell
        have h0 := R0.frozen
        have h2 := R2.frozen
        have h3 := R3.frozen
        have P0 := Lib.hid R0
        have P1 := Lib.hid R1
        have P2 := Lib.hid R2
        have P3 := Lib.hid R3
        have HNP := Lib.hid hnp
        clear R0 R1 R2 R3 hb c0 c1 c2 c3 f0 f2 f3
        have hc04 : c = 0 ∨ c = 4 := by
          rcases hnp with h | h
          · exact .inl h.1
          · exact .inr h.1
        clear hnp
        rcases hc04 with rfl | rfl
        · by_cases hx : x.1 = p
          · subst hx
            have e3 : wrap64 ((pre.length : Int) + 1) = (pre.length : Int) + 1 := by have := HLEN.out; unfold wrap64; omega
            gi_wp2_with fail
            refine ⟨(KO.out.trans (KeepsOthers.setCell _ _ _)).trans (KeepsOthers.setCell _ _ _), (BW.out.setCell (p := ⟨w1.heap.size + 1, 0, none⟩) (by simp) _).setCell (p := ⟨w1.heap.size + 1 + 1, 0, none⟩) (by simp; omega) _, ⟨?_, ?_, ?_, ?_⟩, ?_, ?_⟩
            · exact (P0.out.other (by have := HLT.out; omega) _).other (by have := HLT.out; omega) _
            · exact (P1.out.other (by omega) _).other (by omega) _
            · rw [last_snoc]
              exact (P2.out.set _).other (by omega) _
            · rw [List.length_append, List.length_singleton, show ((pre.length + 1 : Nat) : Int) = (pre.length : Int) + 1 from by omega]
              exact (P3.out.other (by omega) _).set _
            · exact (C0.out.setCell (p := ⟨w1.heap.size + 1, 0, none⟩) (by have := HLT.out; simp; omega) _).setCell (p := ⟨w1.heap.size + 1 + 1, 0, none⟩) (by have := HLT.out; simp; omega) _
            · exact (C1.out.setCell (p := ⟨w1.heap.size + 1, 0, none⟩) (by simp) _).setCell (p := ⟨w1.heap.size + 1 + 1, 0, none⟩) (by simp; omega) _
          · have g6 : ((x.1 : Int) == (p : Int)) = false := by simp; omega
            have HNE := Lib.hid hx
            clear hx
            gi_wp2_with fail
            exact ⟨KO.out.trans (KeepsOthers.setCell _ _ _), .inl ⟨rfl, pre, x, rfl, fun hh => HNE.out (np_unique hh HNP.out).1⟩⟩
        · gi_wp2_with fail
          exact ⟨KO.out.trans (KeepsOthers.setCell _ _ _), .inl ⟨rfl, pre, x, rfl, fun hh => by have := (np_unique hh HNP.out).2; omega⟩⟩
    case done =>
      clear k0 k1 k2 k3 k4 k5
      rintro D ys W hD ⟨t, ht, hsg⟩ ⟨⟨q0, q1, q2, q3⟩, hB0, hB1⟩ hK
      have HSG := Lib.hid hsg
      have HTT := Lib.hid ht
      clear hsg ht
      have c0 := q0.cell
      have c1 := q1.cell
      have c2 := q2.cell
      have c3 := q3.cell
      have f0 := q0.frozen
      have Q0 := Lib.hid q0
      have Q1 := Lib.hid q1
      have Q3 := Lib.hid q3
      have B0 := Lib.hid hB0
      have B1 := Lib.hid hB1
      have HK := Lib.hid hK
      have HD := Lib.hid hD
      clear q0 q1 q2 q3 hB0 hB1 hK hD
      have HY := Lib.hid (HX.out (last f ys) W (HT1.out.below B1.out))
      gi_wp2_with fail
      refine ⟨trivial, (callsIn_wide.2 HY.out).mono ?_⟩
      rintro e W2 ⟨⟨p, c, rfl, hnp⟩, hb⟩
      have R0 := Q0.out.kept (grown_below hb) (by simp)
      have R1 := Q1.out.kept (grown_below hb) (by simp)
      have R3 := Q3.out.kept (grown_below hb) (by simp)
      have C0 := Lib.hid (B0.out.trans (hb.mono B0.out.size))
      have KO := Lib.hid (KeepsOthers.of_grownBy (grown_below hb) (by simp))
      have d0 := R0.cell
      have d1 := R1.cell
      have d3 := R3.cell
      have h0 := R0.frozen
      have P0 := Lib.hid R0
      obtain ⟨rfl, rfl⟩ := next_last HSG.out HTT.out hnp
      clear R0 R1 R3 hb c0 c1 c2 c3 f0 hnp
      try simp only []
      gi_wp2_with fail
      all_goals
        have hK' := (KO.out.trans (KeepsOthers.setCell _ ⟨w.heap.size, 0, none⟩ (.bool true))).same D _ HK.out rfl
        refine ⟨by simp, .inl ⟨_, _, rfl, run_takeDeferred hK', ?_⟩⟩
        have d5 := cell_kept (P0.out.set (.bool true)).cell (grownBy_putObj' _ D (.deferred none)) (fun r e => by cases e; exact ⟨_, hK', rfl⟩)
        refine ⟨.bool true, ?_, rfl, (C0.out.setCell (p := ⟨w.heap.size, 0, none⟩) (Nat.le_refl _) _).trans (belowK_b (w := w) (Nat.le_refl _) _ D _ _ (by have h1 := HD.out; have h2 := HLT.out; simp at h1; omega) hK' rfl rfl)⟩
        simp [results, Tryd.f8, go_sem, d5]
    case stop =>
      clear k0 k1 k2 k3 k4 k5
      rintro D c pre W hD ⟨t, hsg⟩ hL hK
      rcases hL with ⟨rfl, q, x, rfl, hbad⟩ | ⟨rfl, q, x, rfl, hq, ⟨q0, q1, q2, q3⟩, hB0, hB1⟩
      · exact absurd (np_of_pre hsg) hbad
      clear hsg
      have g5 : ((q.length : Int) == (stop : Int)) = true := by rw [hq]; simp
      clear hq
      have c0 := q0.cell
      have c1 := q1.cell
      have c2 := q2.cell
      have c3 := q3.cell
      have f0 := q0.frozen
      have Q0 := Lib.hid q0
      have Q1 := Lib.hid q1
      have Q3 := Lib.hid q3
      have B0 := Lib.hid hB0
      have B1 := Lib.hid hB1
      have HK := Lib.hid hK
      have HD := Lib.hid hD
      clear q0 q1 q2 q3 hB0 hB1 hK hD
      have HY := Lib.hid (HX.out (last f q) W (HT1.out.below B1.out))
      gi_wp2_with fail
      refine ⟨trivial, (callsIn_wide.2 HY.out).mono ?_⟩
      rintro e W2 ⟨⟨p, c, rfl, hnp⟩, hb⟩
      have R0 := Q0.out.kept (grown_below hb) (by simp)
      have R1 := Q1.out.kept (grown_below hb) (by simp)
      have R3 := Q3.out.kept (grown_below hb) (by simp)
      have C0 := Lib.hid (B0.out.trans (hb.mono B0.out.size))
      have KO := Lib.hid (KeepsOthers.of_grownBy (grown_below hb) (by simp))
      have d0 := R0.cell
      have d1 := R1.cell
      have d3 := R3.cell
      have h0 := R0.frozen
      have P0 := Lib.hid R0
      clear R0 R1 R3 hb c0 c1 c2 c3 f0 hnp
      try simp only []
      gi_wp2_with fail
      all_goals
        have hK' := (KO.out.trans (KeepsOthers.setCell _ ⟨w.heap.size, 0, none⟩ (.bool true))).same D _ HK.out rfl
        refine ⟨by simp, .inl ⟨_, _, rfl, run_takeDeferred hK', ?_⟩⟩
        have d5 := cell_kept (P0.out.set (.bool true)).cell (grownBy_putObj' _ D (.deferred none)) (fun r e => by cases e; exact ⟨_, hK', rfl⟩)
        refine ⟨.bool true, ?_, rfl, (C0.out.setCell (p := ⟨w.heap.size, 0, none⟩) (Nat.le_refl _) _).trans (belowK_b (w := w) (Nat.le_refl _) _ D _ _ (by have h1 := HD.out; have h2 := HLT.out; simp at h1; omega) hK' rfl rfl)⟩
        simp [results, Tryd.f8, go_sem, d5]

theorem walk (f n : Nat) (hf : f < 4294967296) (hn : n < 256) (w : World) (hT : TzTab w) :
    Calls Tryd.prog 8 #[.int .u32 f, .int .u8 n] w fun e w' => e = .returned (.bool true) ∧ Below w.heap.size w w' :=
  callsIn_wide.1 (walk_in f n hf hn w hT)

end sequence
end Go.Proofs.YtgmooidagkbheaaDoor
