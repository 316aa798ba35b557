/-
  Plain facts on greatest common divisors; three arguments in boxes.
-/
import Derived.Test.YtgmooidagkbheaaGc
import Derived.Test.YtgmooidagkbheaaAw
namespace Go.Proofs.Ytgmooidagkbheaa
open Go.RowKit Go.Proofs.YtgmooidagkbheaaW.PrintWords
set_option linter.unusedVariables false

theorem boxes3g (w : World) (a b c d x y : Value) : Below w.heap.size w (((w.alloc (.cells #[a, b] 25)).alloc (.cells #[c, d] 25)).alloc (.cells #[x, y] 25)) ∧
    Two (((w.alloc (.cells #[a, b] 25)).alloc (.cells #[c, d] 25)).alloc (.cells #[x, y] 25)) w.heap.size a b ∧
    Two (((w.alloc (.cells #[a, b] 25)).alloc (.cells #[c, d] 25)).alloc (.cells #[x, y] 25)) (w.heap.size + 1) c d ∧
    Two (((w.alloc (.cells #[a, b] 25)).alloc (.cells #[c, d] 25)).alloc (.cells #[x, y] 25)) (w.heap.size + 1 + 1) x y :=
  ⟨boxed3 _ _ _ _, ((Two.made w _ _).alloc _).alloc _, (Two.made2 w _ _ _).alloc _, Two.made3 _ _ _ _ _⟩
theorem gcd_is {v1 v2 : Value} {z1 z2 g : Int} {k1 k2 : Nat} {w : World} (h1 : Rd w v1 z1 k1) (h2 : Rd w v2 z2 k2) (q1 : k1 ≤ 100000) (q2 : k2 ≤ 100000) (e : ((Int.gcd z1 z2 : Nat) : Int) = g) :
    Calls Try.prog 30 #[v1, v2] w fun e w' => (∃ v, e = .returned v ∧ In w' v g) ∧ Below w.heap.size w w' := by
  subst e
  exact gcd_rd h1 h2 q1 q2
theorem Sz.gcd {k : Nat} {a b : Int} (h : Sz k a) (h' : Sz k b) : Sz k ((Int.gcd a b : Nat) : Int) := by
  by_cases h0 : a = 0
  · subst h0
    rw [Int.gcd_zero_left]
    exact h'.abs
  · refine h.le ?_
    rw [Int.natAbs_natCast]
    exact Nat.le_of_dvd (by omega) (Int.gcd_dvd_natAbs_left _ _)

end Go.Proofs.Ytgmooidagkbheaa
