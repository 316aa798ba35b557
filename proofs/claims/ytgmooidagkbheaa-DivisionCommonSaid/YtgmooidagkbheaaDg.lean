/-
  Digits in base 2^32 and the numbers that they stand for. No program in sight.
-/
import Derived.Test.YtgmooidagkbheaaNv
namespace Go.Proofs.Ytgmooidagkbheaa

/-- All digits are below the base. -/
def Dig (l : List Nat) : Prop := ∀ x ∈ l, x < 4294967296
theorem Dig.nil : Dig [] := fun _ h => by cases h
theorem Dig.cons {x : Nat} {l : List Nat} (hx : x < 4294967296) (h : Dig l) : Dig (x :: l) := fun y hy => by
  rcases List.mem_cons.1 hy with e | e
  · rw [e]; exact hx
  · exact h y e
theorem Dig.head {x : Nat} {l : List Nat} (h : Dig (x :: l)) : x < 4294967296 := h x (List.mem_cons_self ..)
theorem Dig.tail {x : Nat} {l : List Nat} (h : Dig (x :: l)) : Dig l := fun y hy => h y (List.mem_cons_of_mem _ hy)
theorem Dig.take {l : List Nat} (h : Dig l) (n : Nat) : Dig (l.take n) := fun x hx => h x (List.mem_of_mem_take hx)
theorem Dig.drop {l : List Nat} (h : Dig l) (n : Nat) : Dig (l.drop n) := fun x hx => h x (List.mem_of_mem_drop hx)
theorem Dig.append {l m : List Nat} (h : Dig l) (h' : Dig m) : Dig (l ++ m) := fun x hx => by
  rcases List.mem_append.1 hx with e | e
  · exact h x e
  · exact h' x e
theorem Dig.set {l : List Nat} (h : Dig l) (j x : Nat) (hx : x < 4294967296) : Dig (l.set j x) := fun y hy => by
  rcases List.mem_or_eq_of_mem_set hy with e | e
  · exact h y e
  · rw [e]; exact hx
theorem Dig.replicate (n : Nat) : Dig (List.replicate n 0) := fun x hx => by
  rw [(List.mem_replicate.1 hx).2]; omega
theorem Dig.getD {l : List Nat} (h : Dig l) (j : Nat) : l.getD j 0 < 4294967296 := getD_lt h j

theorem val_append : ∀ (l m : List Nat), val (l ++ m) = val l + 4294967296 ^ l.length * val m
  | [], m => by simp [val]
  | x :: l, m => by
    simp only [List.cons_append, val, List.length_cons]
    rw [val_append l m, Nat.pow_succ, Nat.mul_add, ← Nat.add_assoc]
    congr 1
    rw [Nat.mul_comm (4294967296 ^ l.length) 4294967296, Nat.mul_assoc]
theorem val_lt : ∀ {l : List Nat}, Dig l → val l < 4294967296 ^ l.length
  | [], _ => by simp [val]
  | x :: l, h => by
    have h1 := h.head
    have h2 := val_lt h.tail
    simp only [val, List.length_cons]
    rw [Nat.pow_succ, Nat.mul_comm _ 4294967296]
    have : 4294967296 * (val l + 1) ≤ 4294967296 * 4294967296 ^ l.length := Nat.mul_le_mul_left _ h2
    rw [Nat.mul_add] at this
    omega
theorem val_replicate : ∀ n, val (List.replicate n 0) = 0
  | 0 => rfl
  | n + 1 => by simp [List.replicate_succ, val, val_replicate n]
theorem val_take_drop (l : List Nat) (n : Nat) (h : n ≤ l.length) : val l = val (l.take n) + 4294967296 ^ n * val (l.drop n) := by
  have e := val_append (l.take n) (l.drop n)
  rw [List.take_append_drop, List.length_take, Nat.min_eq_left h] at e
  exact e
theorem take_succ_getD (l : List Nat) (n : Nat) (h : n < l.length) : l.take (n + 1) = l.take n ++ [l.getD n 0] := by
  rw [List.take_succ_eq_append_getElem h]
  congr 1
  rw [List.getD_eq_getElem?_getD, List.getElem?_eq_getElem h]
  rfl
theorem val_take_succ (l : List Nat) (n : Nat) (h : n < l.length) : val (l.take (n + 1)) = val (l.take n) + 4294967296 ^ n * l.getD n 0 := by
  rw [take_succ_getD l n h, val_append, List.length_take, Nat.min_eq_left (by omega)]
  simp [val]
theorem drop_getD (l : List Nat) (n : Nat) (h : n < l.length) : l.drop n = l.getD n 0 :: l.drop (n + 1) := by
  rw [List.drop_eq_getElem_cons h]
  congr 1
  rw [List.getD_eq_getElem?_getD, List.getElem?_eq_getElem h]
  rfl

/-! ### Without leading zeros -/
theorem val_take_tn (l : List Nat) : ∀ n, n ≤ l.length → val (l.take (tn l n)) = val (l.take n)
  | 0, _ => rfl
  | n + 1, h => by
    rw [tn_succ]
    by_cases h0 : l.getD n 0 = 0
    · rw [if_pos h0, val_take_tn l n (by omega), val_take_succ l n (by omega), h0, Nat.mul_zero, Nat.add_zero]
    · rw [if_neg h0]
theorem val_trimL (l : List Nat) : val (trimL l) = val l := by
  unfold trimL
  rw [val_take_tn l l.length (Nat.le_refl _), List.take_length]

/-- The canonical digits of a number. -/
def dg (n : Nat) : List Nat := if h : n = 0 then [] else n % 4294967296 :: dg (n / 4294967296)
termination_by n
decreasing_by omega
theorem dg_zero : dg 0 = [] := by rw [dg]; simp
theorem dg_pos {n : Nat} (h : n ≠ 0) : dg n = n % 4294967296 :: dg (n / 4294967296) := by rw [dg]; simp [h]
theorem val_dg (n : Nat) : val (dg n) = n := by
  induction n using Nat.strongRecOn with
  | _ n ih =>
    by_cases h : n = 0
    · subst h; rw [dg_zero]; rfl
    · rw [dg_pos h, val, ih _ (by omega)]
      omega
theorem dig_dg (n : Nat) : Dig (dg n) := by
  induction n using Nat.strongRecOn with
  | _ n ih =>
    by_cases h : n = 0
    · subst h; rw [dg_zero]; exact Dig.nil
    · rw [dg_pos h]
      exact Dig.cons (by omega) (ih _ (by omega))
theorem dg_cons {x m : Nat} (hx : x < 4294967296) (h : x ≠ 0 ∨ m ≠ 0) : dg (x + 4294967296 * m) = x :: dg m := by
  rw [dg_pos (by omega)]
  congr 1
  · omega
  · congr 1
    omega
/-- Digits that end in no zero are the canonical ones. -/
theorem dg_of_last : ∀ {l : List Nat}, Dig l → (∀ h : l ≠ [], l.getLast h ≠ 0) → dg (val l) = l
  | [], _, _ => by rw [val, dg_zero]
  | [x], h, hl => by
    have hx := h.head
    have : x ≠ 0 := hl (by simp)
    show dg (x + 4294967296 * 0) = [x]
    rw [dg_cons hx (.inl this), dg_zero]
  | x :: y :: l, h, hl => by
    have ih := dg_of_last h.tail (fun hne => by
      have := hl (by simp)
      rwa [List.getLast_cons (by simp)] at this)
    have hne : val (y :: l) ≠ 0 := by
      intro e
      rw [e, dg_zero] at ih
      cases ih
    rw [val, dg_cons h.head (.inr hne), ih]
theorem trimL_last (l : List Nat) : ∀ h : trimL l ≠ [], (trimL l).getLast h ≠ 0 := by
  have key : ∀ n, n ≤ l.length → ∀ h : l.take (tn l n) ≠ [], (l.take (tn l n)).getLast h ≠ 0 := by
    intro n
    induction n with
    | zero => intro _ h; exact absurd rfl h
    | succ n ih =>
      intro hn
      rw [tn_succ]
      by_cases h0 : l.getD n 0 = 0
      · rw [if_pos h0]; exact ih (by omega)
      · rw [if_neg h0, take_succ_getD l n (by omega)]
        intro h
        simpa using h0
  exact key l.length (Nat.le_refl _)
/-- Trimmed digits are the canonical ones. -/
theorem trimL_dg {l : List Nat} (h : Dig l) : trimL l = dg (val l) := by
  rw [← val_trimL]
  exact (dg_of_last (h.take _) (trimL_last l)).symm
theorem trimL_of_dg (n : Nat) : trimL (dg n) = dg n := by rw [trimL_dg (dig_dg n), val_dg]
theorem dg_length_le {n k : Nat} (h : n < 4294967296 ^ k) : (dg n).length ≤ k := by
  induction k generalizing n with
  | zero =>
    have : n = 0 := by simpa using h
    subst this
    rw [dg_zero]
    exact Nat.le_refl _
  | succ k ih =>
    by_cases h0 : n = 0
    · subst h0; rw [dg_zero]; exact Nat.zero_le _
    · rw [dg_pos h0, List.length_cons]
      have := ih (n := n / 4294967296) (by rw [Nat.div_lt_iff_lt_mul (by omega)]; rw [Nat.pow_succ] at h; exact h)
      omega
theorem le_dg_length {n k : Nat} (h : (dg n).length ≤ k) : n < 4294967296 ^ k := by
  have h1 := val_lt (dig_dg n)
  rw [val_dg] at h1
  exact Nat.lt_of_lt_of_le h1 (Nat.pow_le_pow_right (by omega) h)
theorem dg_length_lt {n k : Nat} (h : 4294967296 ^ k ≤ n) : k < (dg n).length := by
  refine Decidable.byContradiction fun hlt => ?_
  have := le_dg_length (n := n) (k := k) (by omega)
  omega
theorem dg_eq_nil {n : Nat} : dg n = [] ↔ n = 0 := by
  constructor
  · intro h
    have := val_dg n
    rw [h] at this
    exact this.symm
  · rintro rfl
    exact dg_zero
theorem dg_ne_last {n : Nat} (h : n ≠ 0) : (dg n).getD ((dg n).length - 1) 0 ≠ 0 := by
  have h1 : dg n ≠ [] := fun e => h (dg_eq_nil.1 e)
  have h2 := trimL_last (dg n)
  rw [trimL_of_dg] at h2
  have h3 := h2 h1
  rw [List.getLast_eq_getElem] at h3
  have h4 : (dg n).length - 1 < (dg n).length := by
    have := List.length_pos_iff.2 h1
    omega
  rw [List.getD_eq_getElem?_getD, List.getElem?_eq_getElem h4]
  exact h3

/-- -1, 0 or 1. -/
def cmpN (a b : Nat) : Int := if a < b then -1 else if b < a then 1 else 0

/-- Two lists of one length that agree from place n on compare as their first n digits do. -/
theorem cmp_top (l m : List Nat) (hl : Dig l) (n : Nat) (h1 : n < l.length) (h2 : n < m.length) :
    (l.getD n 0 < m.getD n 0 → val (l.take (n + 1)) < val (m.take (n + 1))) := by
  intro h
  rw [val_take_succ l n h1, val_take_succ m n h2]
  have h3 := val_lt (hl.take n)
  rw [List.length_take, Nat.min_eq_left (by omega)] at h3
  have h4 : 4294967296 ^ n * (l.getD n 0 + 1) ≤ 4294967296 ^ n * m.getD n 0 := Nat.mul_le_mul_left _ h
  rw [Nat.mul_add, Nat.mul_one] at h4
  omega

end Go.Proofs.Ytgmooidagkbheaa
