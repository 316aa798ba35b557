/-
  cylinderlaw03.few: whether three integers have at most n digits each.
-/
import Derived.Test.YtgmooidagkbheaaFl
namespace Go.Proofs.Ytgmooidagkbheaa
open Go.RowKit Go.Proofs.YtgmooidagkbheaaW.PrintWords
set_option linter.unusedVariables false

/-- What Few answers of three lengths. -/
def few3 (n n1 n2 n3 : Nat) : Bool := decide (n1 ≤ n) && (decide (n2 ≤ n) && decide (n3 ≤ n))
/-- .. from place k on. -/
def fewFrom (n n1 n2 n3 : Nat) : Nat → Bool
  | 0 => few3 n n1 n2 n3
  | 1 => decide (n2 ≤ n) && decide (n3 ≤ n)
  | 2 => decide (n3 ≤ n)
  | _ => true
def third {α : Type} (a b c : α) : Nat → α
  | 0 => a
  | 1 => b
  | _ => c
theorem fewFrom_step {n n1 n2 n3 k : Nat} (hk : k < 3) : fewFrom n n1 n2 n3 k = (decide (third n1 n2 n3 k ≤ n) && fewFrom n n1 n2 n3 (k + 1)) := by
  match k, hk with
  | 0, _ => rfl
  | 1, _ => rfl
  | 2, _ => simp [fewFrom, third]

set_option maxHeartbeats 1000000 in
set_option maxRecDepth 100000 in
theorem few_loop (g n n1 n2 n3 c1 c2 c3 : Nat) (A1 A2 A3 : Option Addr) (w : World) (h : ∀ k, k < 3 → w.cell? ⟨g, k, none⟩ = some (.slice (third A1 A2 A3 k) (third n1 n2 n3 k) (third c1 c2 c3 k))) :
    Calls Try.prog 46 #[.int .i64 n, .slice (some ⟨g, 0, none⟩) 3 3] w fun e w' => e = .returned (.bool (few3 n n1 n2 n3)) ∧ w = w' := by
  have HC := Lib.hid h
  have HS := Lib.hid (fun k (hk : k < 3) => @fewFrom_step n n1 n2 n3 k hk)
  have H0 : Hid (few3 n n1 n2 n3 = fewFrom n n1 n2 n3 0) := Lib.hid rfl
  have H3 : Hid (fewFrom n n1 n2 n3 3 = true) := Lib.hid rfl
  clear h
  generalize few3 n n1 n2 n3 = R at *
  generalize fewFrom n n1 n2 n3 = F at *
  go_enter Try.func46, Try.ntmps46
  go_wp2_with fail
  go_loop [5] (fun i => ∃ k : Nat, i = .int .i64 k ∧ k ≤ 3 ∧ Hid (R = F k)) (fun i => 3 - (intOf i).toNat)
  case atStart => exact ⟨0, rfl, by omega, H0⟩
  case round =>
    obtain ⟨k, rfl, hk, HR⟩ := hrel
    by_cases hlt : k < 3
    · have hc := HC.out k hlt
      have hs := HS.out k hlt
      rw [← HR.out] at hs
      generalize third n1 n2 n3 k = m at *
      generalize third A1 A2 A3 k = A at *
      generalize third c1 c2 c3 k = c at *
      by_cases hm : m ≤ n
      · have HR2 : Hid (R = F (k + 1)) := Lib.hid (by rw [hs, decide_eq_true hm, Bool.true_and])
        have d1 : decide (n < m) = false := decide_eq_false (by omega)
        have d2 : ¬ n < m := by omega
        clear hs hm
        go_wp2_with fail
        go_round
        case rel => exact ⟨k + 1, by go_num, by omega, HR2⟩
        case measure => simp [intOf]; omega
      · have HR2 : Hid (R = false) := Lib.hid (by rw [hs, decide_eq_false hm, Bool.false_and])
        have d1 : decide (n < m) = true := decide_eq_true (by omega)
        have d2 : n < m := by omega
        clear hs hm
        go_wp2_with fail
        go_ret
        exact ⟨by rw [HR2.out]; rfl, rfl⟩
    · obtain rfl : k = 3 := by omega
      have HR2 : Hid (R = true) := Lib.hid (by rw [HR.out, H3.out])
      go_wp2_with fail
      go_ret
      exact ⟨by rw [HR2.out]; rfl, rfl⟩

theorem made3 (W : World) (t : TypeId) (A1 A2 A3 : Option Addr) {n1 n2 n3 c1 c2 c3 : Nat} (g : Nat) (hg : W.heap.size = g) : ∀ k, k < 3 → (W.alloc (.cells #[.slice A1 n1 c1, .slice A2 n2 c2, .slice A3 n3 c3] t)).cell? ⟨g, k, none⟩ = some (.slice (third A1 A2 A3 k) (third n1 n2 n3 k) (third c1 c2 c3 k)) := by
  intro k hk
  have h : (W.alloc (.cells #[.slice A1 n1 c1, .slice A2 n2 c2, .slice A3 n3 c3] t)).heap[g]? = some (.cells #[.slice A1 n1 c1, .slice A2 n2 c2, .slice A3 n3 c3] t) := by
    rw [← hg]
    show (W.heap.push _)[W.heap.size]? = _
    simp
  simp only [World.cell?, h]
  match k, hk with
  | 0, _ => rfl
  | 1, _ => rfl
  | 2, _ => rfl

set_option maxHeartbeats 1000000 in
set_option maxRecDepth 100000 in
theorem few_calls (n : Nat) (v1 v2 v3 : Value) (g1 g2 g3 : Bool) (l1 l2 l3 : List Nat) (w : World) (h1 : Iv w v1 g1 l1) (h2 : Iv w v2 g2 l2) (h3 : Iv w v3 g3 l3) :
    Calls Try.prog 11 #[.int .i64 n, v1, v2, v3] w fun e w' => e = .returned (.bool (few3 n l1.length l2.length l3.length)) ∧ Below w.heap.size w w' := by
  obtain ⟨A1, c1, rfl, _, _, _⟩ := h1.open_
  obtain ⟨A2, c2, rfl, _, _, _⟩ := h2.open_
  obtain ⟨A3, c3, rfl, _, _, _⟩ := h3.open_
  have HF := Lib.hid (fun g w h => few_loop g n l1.length l2.length l3.length c1 c2 c3 A1 A2 A3 w h)
  clear h1 h2 h3
  generalize few3 n l1.length l2.length l3.length = R at *
  generalize l1.length = n1 at *
  generalize l2.length = n2 at *
  generalize l3.length = n3 at *
  go_enter Try.func11, Try.ntmps11
  go_wp2_with fail
  refine (HF.out _ _ (made3 _ _ _ _ _ _ (by simp))).mono ?_
  rintro e w1 ⟨rfl, rfl⟩
  go_wp2_with fail
  go_ret
  exact ⟨rfl, ((boxed3 _ _ _ _).alloc (by simp; omega) _)⟩

end Go.Proofs.Ytgmooidagkbheaa
