/-
  How a slice of 32-bit digits reads in a world; what survives when a call only makes new memory.
-/
import Derived.Test.YtgmooidagkbheaaProg
import Derived.Test.YtgmooidagkbheaaWWords
import Derived.Test.YtgmooidagkbheaaWMore
import Derived.Lib.Hide
import Derived.WalkKit
import Derived.WalkLawsBesides
import Derived.Deep.QuietTactic
import Derived.BigQuiet
namespace Go.Proofs.Ytgmooidagkbheaa
open Go.RowKit Go.Proofs.YtgmooidagkbheaaW.PrintWords
set_option linter.unusedVariables false

/-- A bound on capacities: it stands behind a name. -/
def LIM : Nat := 70368744177664

/-- The value v reads, in the world w, as the digits l. -/
structure Nv (w : World) (v : Value) (l : List Nat) : Prop where mk ::
  out : ∃ A c, v = .slice A l.length c ∧ l.length ≤ c ∧ c ≤ LIM ∧ (∀ x ∈ l, x < 4294967296) ∧
    (0 < l.length → ∃ b o, A = some ⟨b, o, none⟩ ∧ b < w.heap.size ∧ ∀ j, j < l.length → w.cell? ⟨b, o + j, none⟩ = some (.int .u32 ((l.getD j 0 : Nat) : Int)))

theorem Nv.below {w w' : World} {v : Value} {l : List Nat} (h : Nv w v l) (hb : Below w.heap.size w w') : Nv w' v l := by
  obtain ⟨A, c, rfl, h1, h2, h3, h4⟩ := h.out
  refine ⟨A, c, rfl, h1, h2, h3, fun hp => ?_⟩
  obtain ⟨b, o, e, hlt, hc⟩ := h4 hp
  exact ⟨b, o, e, Nat.lt_of_lt_of_le hlt hb.size, fun j hj => (hb.cell (p := ⟨b, o + j, none⟩) hlt).trans (hc j hj)⟩
theorem Nv.digits {w : World} {v : Value} {l : List Nat} (h : Nv w v l) : ∀ x ∈ l, x < 4294967296 := by
  obtain ⟨A, c, rfl, h1, h2, h3, h4⟩ := h.out
  exact h3
theorem Nv.len {w : World} {v : Value} {l : List Nat} (h : Nv w v l) : l.length ≤ LIM := by
  obtain ⟨A, c, rfl, h1, h2, h3, h4⟩ := h.out
  omega
theorem Nv.nil (w : World) : Nv w (.slice none 0 0) [] :=
  ⟨none, 0, rfl, Nat.le_refl _, Nat.zero_le _, fun _ h => (by cases h), fun h => absurd h (by simp)⟩
theorem getD_lt {l : List Nat} (h : ∀ x ∈ l, x < 4294967296) (j : Nat) : l.getD j 0 < 4294967296 := by
  rw [List.getD_eq_getElem?_getD]
  cases hj : l[j]? with
  | none => simp
  | some x => exact h x (List.mem_of_getElem? hj)

/-- The shape, for a walk: the address stays a variable. -/
theorem Nv.open_ {w : World} {v : Value} {l : List Nat} (h : Nv w v l) : ∃ A c, v = .slice A l.length c ∧ l.length ≤ c ∧ c ≤ LIM ∧ Nv w (.slice A l.length c) l := by
  obtain ⟨A, c, rfl, h1, h2, h3, h4⟩ := h.out
  exact ⟨A, c, rfl, h1, h2, ⟨A, c, rfl, h1, h2, h3, h4⟩⟩
theorem Nv.at_ {w : World} {A : Option Addr} {c : Nat} {l : List Nat} (h : Nv w (.slice A l.length c) l) (hp : 0 < l.length) :
    ∃ b o, A = some ⟨b, o, none⟩ ∧ b < w.heap.size ∧ ∀ j, j < l.length → w.cell? ⟨b, o + j, none⟩ = some (.int .u32 ((l.getD j 0 : Nat) : Int)) := by
  obtain ⟨A', c', e, h1, h2, h3, h4⟩ := h.out
  cases e
  exact h4 hp
/-- The first n digits, in the same memory. -/
theorem Nv.take {w : World} {A : Option Addr} {c : Nat} {l : List Nat} (h : Nv w (.slice A l.length c) l) (n : Nat) (hn : n ≤ l.length) : Nv w (.slice A n c) (l.take n) := by
  obtain ⟨A', c', e, h1, h2, h3, h4⟩ := h.out
  cases e
  have hl : (l.take n).length = n := by rw [List.length_take]; omega
  refine ⟨A, c, by rw [hl], by omega, h2, fun x hx => h3 x (List.mem_of_mem_take hx), fun hp => ?_⟩
  obtain ⟨b, o, e, hlt, hc⟩ := h4 (by omega)
  refine ⟨b, o, e, hlt, fun j hj => ?_⟩
  rw [hc j (by omega)]
  congr 3
  rw [List.getD_eq_getElem?_getD, List.getD_eq_getElem?_getD, List.getElem?_take, if_pos (by omega)]

/-! ### Digits and numbers -/
/-- The number that digits in base 2^32 stand for, the lowest first. -/
def val : List Nat → Nat
  | [] => 0
  | x :: l => x + 4294967296 * val l
/-- How many of the first n digits are left when leading zeros are dropped. -/
def tn (l : List Nat) : Nat → Nat
  | 0 => 0
  | n + 1 => if l.getD n 0 = 0 then tn l n else n + 1
/-- Digits without leading zeros. -/
def trimL (l : List Nat) : List Nat := l.take (tn l l.length)
theorem tn_le (l : List Nat) : ∀ n, tn l n ≤ n
  | 0 => Nat.le_refl _
  | n + 1 => by
    unfold tn
    split
    · have := tn_le l n
      omega
    · omega
theorem tn_succ (l : List Nat) (n : Nat) : tn l (n + 1) = if l.getD n 0 = 0 then tn l n else n + 1 := rfl

end Go.Proofs.Ytgmooidagkbheaa
