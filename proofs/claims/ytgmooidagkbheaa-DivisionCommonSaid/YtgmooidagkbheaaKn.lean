/-
  Division by digits: the plain law of the loop of division.divide. No program in sight.
-/
import Derived.Test.YtgmooidagkbheaaAb
namespace Go.Proofs.Ytgmooidagkbheaa
open Go.RowKit Go.Proofs.YtgmooidagkbheaaW.PrintWords
set_option linter.unusedVariables false

theorem kn_lo (B R M D U V U' V' : Nat) (hR : 0 < R) (hB : 0 < B) (hU : U = M * R + U') (hU' : U' < R) (hV : V = D * R + V') (hD : 0 < D) (hUV : U < V * B) : U / V ≤ min (B - 1) (M / D) := by
  have hVp : 0 < V := by
    have := Nat.mul_pos hD hR
    omega
  have h1 : U / V < B := by
    rw [Nat.div_lt_iff_lt_mul hVp, Nat.mul_comm]
    exact hUV
  have h2 : U / V ≤ M / D := by
    rw [Nat.le_div_iff_mul_le hD]
    have e := Nat.div_mul_le_self U V
    generalize U / V = q at *
    have e2 : q * (D * R) ≤ q * V := Nat.mul_le_mul_left _ (by omega)
    have e3 : q * D * R < (M + 1) * R := by
      rw [Nat.mul_assoc, Nat.add_mul, Nat.one_mul]
      omega
    have := Nat.lt_of_mul_lt_mul_right e3
    omega
  omega

theorem kn_hi (B R M D U V U' V' : Nat) (hR : 0 < R) (hU : U = M * R + U') (hV : V = D * R + V') (hV' : V' < R) (hD : B ≤ D) (hB : 0 < B) : min (B - 1) (M / D) ≤ U / V + 1 := by
  have hVp : 0 < V := by
    have := Nat.mul_pos (show 0 < D by omega) hR
    omega
  refine Decidable.byContradiction fun hc => ?_
  have h1 : U / V + 2 ≤ M / D := by omega
  have h2 : U / V + 2 ≤ B - 1 := by omega
  rw [Nat.le_div_iff_mul_le (by omega)] at h1
  have e : U < (U / V + 1) * V := by
    rw [Nat.add_mul, Nat.one_mul, Nat.mul_comm]
    have e1 := Nat.div_add_mod U V
    have e2 := Nat.mod_lt U hVp
    omega
  generalize U / V = q at *
  have e1 : (q + 2) * D * R ≤ M * R := Nat.mul_le_mul_right _ h1
  have e2 : (q + 1) * V < (q + 1) * ((D + 1) * R) := Nat.mul_lt_mul_of_pos_left (by rw [Nat.add_mul, Nat.one_mul]; omega) (by omega)
  have e3 : (q + 2) * D * R < (q + 1) * (D + 1) * R := by
    rw [Nat.mul_assoc (q + 1)]
    omega
  have e4 := Nat.lt_of_mul_lt_mul_right e3
  rw [Nat.mul_add, Nat.mul_one, Nat.add_mul, Nat.add_mul, Nat.one_mul] at e4
  omega

theorem kn_top (B R v1 v2 u2 u1 u0 U' V' X V : Nat) (hX : X = ((u2 * B + u1) * B + u0) * R + U') (hV : V = (v1 * B + v2) * R + V') (hV' : V' < R) (hv2 : v2 < B) (h : X < V * B) : u2 ≤ v1 := by
  refine Decidable.byContradiction fun hc => ?_
  have g0 : (v1 + 1) * B ≤ u2 * B := Nat.mul_le_mul_right _ (by omega)
  have g1 : (v1 + 1) * B * B * R ≤ ((u2 * B + u1) * B + u0) * R := Nat.mul_le_mul_right _ (by
    have : (v1 + 1) * B * B ≤ (u2 * B + u1) * B := Nat.mul_le_mul_right _ (by omega)
    omega)
  have g2 : V < (v1 + 1) * B * R := by
    have : (v1 * B + v2 + 1) * R ≤ (v1 + 1) * B * R := Nat.mul_le_mul_right _ (by rw [Nat.add_mul v1, Nat.one_mul]; omega)
    rw [Nat.add_mul (v1 * B + v2), Nat.one_mul] at this
    omega
  have g3 : (v1 + 1) * B * B * R = (v1 + 1) * B * R * B := by
    rw [Nat.mul_assoc _ B R, Nat.mul_comm B R, ← Nat.mul_assoc]
  have g4 : V * B ≤ (v1 + 1) * B * R * B := Nat.mul_le_mul_right _ (by omega)
  omega

/-! Lists that agree -/
theorem val_take_congr {Z U : List Nat} : ∀ j, (∀ i, i < j → Z.getD i 0 = U.getD i 0) → val (Z.take j) = val (U.take j)
  | 0, _ => by simp
  | j + 1, h => by
    rw [take_getD_succ, take_getD_succ, val_take_congr j (fun i hi => h i (by omega)), h j (by omega)]
theorem drop_congr {Z U : List Nat} (hl : Z.length = U.length) (j : Nat) (h : ∀ i, j ≤ i → Z.getD i 0 = U.getD i 0) : Z.drop j = U.drop j := by
  apply List.ext_getElem?
  intro i
  rw [List.getElem?_drop, List.getElem?_drop]
  have := h (j + i) (by omega)
  rw [List.getD_eq_getElem?_getD, List.getD_eq_getElem?_getD] at this
  by_cases hi : j + i < U.length
  · rw [List.getElem?_eq_getElem hi, List.getElem?_eq_getElem (by omega)] at this ⊢
    simpa using this
  · rw [List.getElem?_eq_none (by omega), List.getElem?_eq_none (by omega)]
theorem val_split (l : List Nat) (n : Nat) : val l = val (l.take n) + 4294967296 ^ n * val (l.drop n) := by
  by_cases h : n ≤ l.length
  · exact val_take_drop l n h
  · rw [List.take_of_length_le (by omega), List.drop_eq_nil_of_le (by omega)]
    simp [val]
theorem val_take_lt {l : List Nat} (h : Dig l) (n : Nat) : val (l.take n) < 4294967296 ^ n := by
  have h1 := val_lt (h.take n)
  exact Nat.lt_of_lt_of_le h1 (Nat.pow_le_pow_right (by decide) (by rw [List.length_take]; omega))
theorem drop_zero_of_lt {l : List Nat} {n : Nat} (h : val l < 4294967296 ^ n) : val (l.drop n) = 0 := by
  have e := val_split l n
  rcases Nat.eq_zero_or_pos (val (l.drop n)) with h0 | h0
  · exact h0
  · have := Nat.mul_le_mul_left (4294967296 ^ n) h0
    rw [Nat.mul_one] at this
    omega
theorem val_drop_succ (l : List Nat) (j : Nat) : val (l.drop j) = l.getD j 0 + 4294967296 * val (l.drop (j + 1)) := by
  have e1 : ∀ (x : Nat) (m : List Nat), val (x :: m) = x + 4294967296 * val m := fun _ _ => rfl
  by_cases h : j < l.length
  · rw [drop_getD _ _ h, e1]
  · rw [List.drop_eq_nil_of_le (by omega), List.drop_eq_nil_of_le (by omega), List.getD_eq_getElem?_getD, List.getElem?_eq_none (by omega)]
    rfl
theorem getD_drop (l : List Nat) (j i : Nat) : (l.drop j).getD i 0 = l.getD (j + i) 0 := by
  rw [List.getD_eq_getElem?_getD, List.getD_eq_getElem?_getD, List.getElem?_drop]

/-- The three highest digits and what is left. -/
theorem top_three (S : List Nat) (n : Nat) (hn : 2 ≤ n) (h : val (S.drop (n + 1)) = 0) :
    val S = ((S.getD n 0 * 4294967296 + S.getD (n - 1) 0) * 4294967296 + S.getD (n - 2) 0) * 4294967296 ^ (n - 2) + val (S.take (n - 2)) := by
  obtain ⟨k, rfl⟩ : ∃ k, n = k + 2 := ⟨n - 2, by omega⟩
  rw [val_split S (k + 2 + 1), h, Nat.mul_zero, Nat.add_zero, take_getD_succ, take_getD_succ, take_getD_succ, show k + 2 - 1 = k + 1 from by omega, show k + 2 - 2 = k from by omega, Nat.pow_succ 4294967296 (k + 1), Nat.pow_succ 4294967296 k]
  generalize S.getD k 0 = a
  generalize S.getD (k + 1) 0 = b
  generalize S.getD (k + 2) 0 = c
  generalize val (S.take k) = t
  generalize 4294967296 ^ k = P
  generalize 4294967296 = B
  rw [Nat.add_mul, Nat.add_mul, Nat.add_mul, Nat.mul_comm P a, Nat.mul_assoc P B b, Nat.mul_assoc P B B, Nat.mul_assoc P (B * B) c]
  have e1 : P * (B * b) = b * B * P := by rw [Nat.mul_comm P, Nat.mul_comm B]
  have e2 : P * (B * B * c) = c * B * B * P := by rw [Nat.mul_comm P, Nat.mul_comm (B * B), ← Nat.mul_assoc c]
  rw [e1, e2]
  omega
theorem top_two (l : List Nat) (n : Nat) (hn : 2 ≤ n) (h : l.length = n) :
    val l = (l.getD (n - 1) 0 * 4294967296 + l.getD (n - 2) 0) * 4294967296 ^ (n - 2) + val (l.take (n - 2)) := by
  obtain ⟨k, rfl⟩ : ∃ k, n = k + 2 := ⟨n - 2, by omega⟩
  rw [val_split l (k + 2), List.drop_eq_nil_of_le (by omega), show val [] = 0 from rfl, Nat.mul_zero, Nat.add_zero, take_getD_succ, take_getD_succ, show k + 2 - 1 = k + 1 from by omega, show k + 2 - 2 = k from by omega, Nat.pow_succ]
  generalize l.getD k 0 = a
  generalize l.getD (k + 1) 0 = b
  generalize val (l.take k) = t
  generalize 4294967296 ^ k = P
  generalize 4294967296 = B
  rw [Nat.add_mul, Nat.mul_comm P a, Nat.mul_assoc P B b]
  have e1 : P * (B * b) = b * B * P := by rw [Nat.mul_comm P, Nat.mul_comm B]
  rw [e1]
  omega

/-- What the loop of divide keeps: the digits of the quotient from j on stand in Q, and U is what is left. -/
structure DvInv (A V n m : Nat) (U Q : List Nat) (j : Nat) : Prop where mk ::
  lenU : U.length = m
  digU : Dig U
  lenQ : Q.length = m - n
  digQ : Dig Q
  tot : val U + V * (4294967296 ^ j * val (Q.drop j)) = A
  top : val (U.drop j) < V

/-- The estimate at a place. -/
def estAt (U l : List Nat) (n j : Nat) : Nat := est (U.getD (j + n) 0) (U.getD (j + (n - 1)) 0) (U.getD (j + (n - 2)) 0) (l.getD (n - 1) 0) (l.getD (n - 2) 0)

/-- Before a round: the part that is divided. -/
theorem part_facts {A n m j : Nat} {U Q l : List Nat} (h : DvInv A (val l) n m U Q (j + 1)) (hj : j + 1 ≤ m - n) (hl : Dig l) (hn : l.length = n) (hn2 : 2 ≤ n) (ht : l.getD (n - 1) 0 ≠ 0) :
    val (U.drop j) < val l * 4294967296 ∧ val (U.drop (j + n + 1)) = 0 ∧ U.getD (j + n) 0 ≤ l.getD (n - 1) 0 ∧
    val (U.drop j) / val l ≤ estAt U l n j ∧ estAt U l n j ≤ val (U.drop j) / val l + 1 ∧ estAt U l n j < 4294967296 := by
  have htop := h.top
  have hVn := val_lt hl
  rw [hn] at hVn
  have hx := h.digU.getD j
  have e1 := val_drop_succ U j
  have hlt : val (U.drop j) < val l * 4294967296 := by
    generalize val (U.drop (j + 1)) = W at *
    omega
  have hz : val (U.drop (j + n + 1)) = 0 := by
    have := drop_zero_of_lt (l := U.drop (j + 1)) (n := n) (by omega)
    rw [List.drop_drop] at this
    rwa [show j + n + 1 = j + 1 + n from by omega]
  have h3 := top_three (U.drop j) n hn2 (by rw [List.drop_drop, ← Nat.add_assoc]; exact hz)
  have h2 := top_two l n hn2 hn
  rw [getD_drop, getD_drop, getD_drop] at h3
  have hu1 := h.digU.getD (j + (n - 1))
  have hu0 := h.digU.getD (j + (n - 2))
  have hv2 := hl.getD (n - 2)
  have r1 := val_take_lt (h.digU.drop j) (n - 2)
  have r2 := val_take_lt hl (n - 2)
  have hR : 0 < 4294967296 ^ (n - 2) := Nat.pow_pos (by decide)
  unfold estAt
  generalize U.getD (j + n) 0 = u2 at *
  generalize U.getD (j + (n - 1)) 0 = u1 at *
  generalize U.getD (j + (n - 2)) 0 = u0 at *
  generalize l.getD (n - 1) 0 = v1 at *
  generalize l.getD (n - 2) 0 = v2 at *
  generalize val ((U.drop j).take (n - 2)) = U' at *
  generalize val (l.take (n - 2)) = V' at *
  generalize 4294967296 ^ (n - 2) = R at *
  have hu : u2 ≤ v1 := kn_top _ R v1 v2 u2 u1 u0 U' V' _ _ h3 h2 r2 hv2 hlt
  have hv1 : 4294967296 ≤ v1 * 4294967296 + v2 := by omega
  refine ⟨hlt, hz, hu, ?_, ?_, ?_⟩
  · exact kn_lo 4294967296 R _ _ _ _ U' V' hR (by decide) h3 r1 h2 (Nat.lt_of_lt_of_le (by decide) hv1) hlt
  · exact kn_hi 4294967296 R _ _ _ _ U' V' hR h3 h2 r2 hv1 (by decide)
  · exact Nat.lt_of_le_of_lt (Nat.min_le_left _ _) (by decide)

/-- The digits at a place and above, behind a step that has touched the part alone. -/
theorem drop_eq_of_part {U Z : List Nat} {j n c d : Nat} (hl : Z.length = U.length) (same : ∀ i, i < j ∨ j + n + 1 ≤ i → Z.getD i 0 = U.getD i 0)
    (eq : val Z + 4294967296 ^ j * c = val U + 4294967296 ^ j * d) : val (Z.drop j) + c = val (U.drop j) + d ∧ val (Z.drop (j + n + 1)) = val (U.drop (j + n + 1)) := by
  have e1 := val_split Z j
  have e2 := val_split U j
  have e3 := val_take_congr (Z := Z) (U := U) j (fun i hi => same i (.inl hi))
  refine ⟨?_, by rw [drop_congr hl _ (fun i hi => same i (.inr hi))]⟩
  have hp : 0 < 4294967296 ^ j := Nat.pow_pos (by decide)
  generalize 4294967296 ^ j = P at *
  have : P * (val (Z.drop j) + c) = P * (val (U.drop j) + d) := by
    rw [Nat.mul_add, Nat.mul_add]
    omega
  exact Nat.eq_of_mul_eq_mul_left hp this
theorem drop_lt_of_zero {U : List Nat} (hU : Dig U) {j n : Nat} (h : val (U.drop (j + n + 1)) = 0) : val (U.drop j) < 4294967296 ^ (n + 1) := by
  have e := val_split (U.drop j) (n + 1)
  rw [List.drop_drop, ← Nat.add_assoc, h, Nat.mul_zero, Nat.add_zero] at e
  rw [e]
  exact val_take_lt (hU.drop j) _

theorem DvInv.tot_step {A V W q T X P B vU vZ : Nat} (h : vU + V * (P * B * W) = A) (h1 : vU = T + P * X) (h2 : vZ = T + P * (X - q * V)) (hq : q * V ≤ X) :
    vZ + V * (P * (q + B * W)) = A := by
  obtain ⟨Y, rfl⟩ : ∃ Y, X = q * V + Y := ⟨X - q * V, by omega⟩
  rw [Nat.add_sub_cancel_left] at h2
  have e1 : V * (P * (q + B * W)) = P * (q * V) + V * (P * B * W) := by
    rw [Nat.mul_add, Nat.mul_add]
    congr 1
    · rw [Nat.mul_left_comm, Nat.mul_comm V q]
    · rw [Nat.mul_assoc P B W]
  rw [e1, ← h, h1, h2, Nat.mul_add]
  omega

/-- The invariant at the next place, from what the digits there have become. -/
theorem DvInv.next {A n m j q : Nat} {U Q l Z : List Nat} (h : DvInv A (val l) n m U Q (j + 1)) (hj : j + 1 ≤ m - n) (hq : q < 4294967296) (hlen : Z.length = U.length) (hdig : Dig Z)
    (hsame : ∀ i, i < j → Z.getD i 0 = U.getD i 0) (hle : q * val l ≤ val (U.drop j)) (hd : val (Z.drop j) = val (U.drop j) - q * val l) (hlt : val (Z.drop j) < val l) : DvInv A (val l) n m Z (Q.set j q) j := by
  have htot := h.tot
  rw [Nat.pow_succ] at htot
  have e1 := val_split U j
  have e2 := val_split Z j
  rw [val_take_congr j hsame, hd] at e2
  refine ⟨hlen.trans h.lenU, hdig, by rw [List.length_set]; exact h.lenQ, h.digQ.set _ _ hq, ?_, hlt⟩
  have e3 : val ((Q.set j q).drop j) = q + 4294967296 * val (Q.drop (j + 1)) := by
    rw [drop_set_self (by rw [h.lenQ]; omega)]
    rfl
  rw [e3]
  exact DvInv.tot_step htot e1 e2 hle

theorem div_exact {e V X Y : Nat} (hV : 0 < V) (h : Y + e * V = X) (he : X / V ≤ e) : Y < V := by
  have e1 := Nat.div_add_mod X V
  have e2 := Nat.mod_lt X hV
  have e3 := Nat.mul_le_mul_right V he
  rw [Nat.mul_comm (X / V)] at e3
  omega

/-- The digit is right. -/
theorem DvInv.hit {A n m j e : Nat} {U Q l Z : List Nat} (h : DvInv A (val l) n m U Q (j + 1)) (hj : j + 1 ≤ m - n)
    (he : val (U.drop j) / val l ≤ e) (heB : e < 4294967296) (hs : SmEnd U Z (val l) e j n 0) : DvInv A (val l) n m Z (Q.set j e) j := by
  have heq := hs.eq
  obtain ⟨d1, _⟩ := drop_eq_of_part (c := e * val l) (d := 0) hs.len hs.same (by rw [heq, Nat.mul_zero, Nat.mul_zero])
  have hV : 0 < val l := by have := h.top; omega
  exact h.next hj heB hs.len hs.dig (fun i hi => hs.same i (.inl hi)) (by omega) (by omega) (div_exact hV (by omega) he)

/-- The digit is one too great: the number is added back. -/
theorem DvInv.miss {A n m j e ov : Nat} {U Q l Z Z2 : List Nat} (h : DvInv A (val l) n m U Q (j + 1)) (hj : j + 1 ≤ m - n) (hl : Dig l) (hn : l.length = n) (hz : val (U.drop (j + n + 1)) = 0)
    (he : e ≤ val (U.drop j) / val l + 1) (heB : e < 4294967296) (hs : SmEnd U Z (val l) e j n 1) (ha : AbEnd Z Z2 (val l) j n ov) : 0 < e ∧ DvInv A (val l) n m Z2 (Q.set j (e - 1)) j := by
  have hpow : 4294967296 ^ (j + n + 1) = 4294967296 ^ j * 4294967296 ^ (n + 1) := by rw [← Nat.pow_add, Nat.add_assoc]
  obtain ⟨d1, z1⟩ := drop_eq_of_part (c := e * val l) (d := 4294967296 ^ (n + 1)) hs.len hs.same (by rw [hs.eq, hpow, Nat.mul_one])
  rw [hz] at z1
  obtain ⟨d2, z2⟩ := drop_eq_of_part (c := 4294967296 ^ (n + 1) * ov) (d := val l) ha.len ha.same (by rw [← ha.eq, hpow, Nat.mul_assoc])
  rw [z1] at z2
  have b1 := drop_lt_of_zero hs.dig z1
  have b2 := drop_lt_of_zero ha.dig z2
  have hV : 0 < val l := by have := h.top; omega
  have hVn := val_lt hl
  rw [hn] at hVn
  have hN : 4294967296 ^ n ≤ 4294967296 ^ (n + 1) := Nat.pow_le_pow_right (by decide) (by omega)
  have hov := ha.ovr
  have e1 := Nat.div_add_mod (val (U.drop j)) (val l)
  have e2 := Nat.mod_lt (val (U.drop j)) hV
  have hx : val (U.drop j) < e * val l := by omega
  have hgt : val (U.drop j) / val l < e := by
    rw [Nat.div_lt_iff_lt_mul hV]
    exact hx
  obtain rfl : e = val (U.drop j) / val l + 1 := by omega
  have e3 : (val (U.drop j) / val l + 1) * val l = val l * (val (U.drop j) / val l) + val l := by rw [Nat.add_mul, Nat.one_mul, Nat.mul_comm]
  have hd : val (Z2.drop j) = val (U.drop j) % val l := by
    have : ov = 0 ∨ ov = 1 := by omega
    rcases this with rfl | rfl
    · rw [Nat.mul_zero] at d2
      omega
    · rw [Nat.mul_one] at d2
      omega
  refine ⟨Nat.succ_pos _, ?_⟩
  rw [Nat.add_sub_cancel]
  refine h.next hj (by omega) (ha.len.trans hs.len) ha.dig (fun i hi => (ha.same i (.inl hi)).trans (hs.same i (.inl hi))) ?_ ?_ (by omega)
  · rw [Nat.mul_comm]
    omega
  · rw [Nat.mul_comm, hd]
    omega

theorem DvInv.start {A n m : Nat} {U l : List Nat} (hU : Dig U) (hm : U.length = m) (hn : n ≤ m) (hA : val U = A) (hlt : A < val l * 4294967296 ^ (m - n)) : DvInv A (val l) n m U (List.replicate (m - n) 0) (m - n) := by
  refine ⟨hm, hU, by simp, Dig.replicate _, ?_, ?_⟩
  · rw [List.drop_eq_nil_of_le (by simp), show val [] = 0 from rfl, Nat.mul_zero, Nat.mul_zero, Nat.add_zero]
    exact hA
  · rw [val_drop_div hU _ (by omega), hA, Nat.div_lt_iff_lt_mul (Nat.pow_pos (by decide))]
    exact hlt
theorem DvInv.last {A V n m : Nat} {U Q : List Nat} (h : DvInv A V n m U Q 0) : val Q = A / V ∧ val U = A % V := by
  have e := h.tot
  have ht := h.top
  rw [List.drop_zero] at ht
  rw [List.drop_zero, Nat.pow_zero, Nat.one_mul] at e
  rw [← e]
  constructor
  · rw [Nat.add_mul_div_left _ _ (by omega), Nat.div_eq_of_lt ht, Nat.zero_add]
  · rw [Nat.add_mul_mod_self_left, Nat.mod_eq_of_lt ht]

/-- The divisor, shifted: its length stays. -/
theorem shift_len {b s : Nat} (hb : b ≠ 0) (hs : s = 32 - bl ((dg b).getD ((dg b).length - 1) 0)) : (dg (b * 2 ^ s)).length = (dg b).length ∧ s < 32 := by
  have hl : 0 < (dg b).length := by
    rcases Nat.eq_zero_or_pos (dg b).length with h | h
    · exact absurd (dg_eq_nil.1 (List.length_eq_zero_iff.1 h)) hb
    · exact h
  have ht := dg_ne_last hb
  have htd := (dig_dg b).getD ((dg b).length - 1)
  have e := val_split (dg b) ((dg b).length - 1)
  rw [val_dg, drop_getD _ _ (by omega), List.drop_eq_nil_of_le (by omega)] at e
  have hv1 : val [(dg b).getD ((dg b).length - 1) 0] = (dg b).getD ((dg b).length - 1) 0 := by simp [val]
  rw [hv1] at e
  have hlow := val_take_lt (dig_dg b) ((dg b).length - 1)
  have hge := le_dg_length (Nat.le_refl (dg b).length)
  obtain ⟨k, hk⟩ : ∃ k, (dg b).length = k + 1 := ⟨(dg b).length - 1, by omega⟩
  rw [hk, Nat.add_sub_cancel] at hs ht htd e hlow
  rw [hk] at hge ⊢
  clear hv1
  generalize (dg b).getD k 0 = t at *
  generalize val ((dg b).take k) = r at *
  have hb1 := bl_pos ht
  have hb2 := (bl_le_iff t 32).2 htd
  have hb3 := bl_lt t
  have hs32 : bl t + s = 32 := by omega
  have hpw : 2 ^ bl t * 2 ^ s = 4294967296 := by rw [← Nat.pow_add, hs32]
  have hup : b * 2 ^ s < 4294967296 ^ (k + 1) := by
    have h1 : b < (t + 1) * 4294967296 ^ k := by rw [Nat.add_mul, Nat.one_mul, Nat.mul_comm t]; omega
    have h2 : (t + 1) * 4294967296 ^ k ≤ 2 ^ bl t * 4294967296 ^ k := Nat.mul_le_mul_right _ hb3
    have h3 : b * 2 ^ s < 2 ^ bl t * 4294967296 ^ k * 2 ^ s := Nat.mul_lt_mul_of_pos_right (by omega) (Nat.two_pow_pos s)
    have h4 : 2 ^ bl t * 4294967296 ^ k * 2 ^ s = 4294967296 ^ (k + 1) := by
      rw [Nat.mul_assoc, Nat.mul_comm (4294967296 ^ k), ← Nat.mul_assoc, hpw, Nat.pow_succ, Nat.mul_comm]
    rw [← h4]
    exact h3
  refine ⟨Nat.le_antisymm (dg_length_le hup) ?_, by omega⟩
  apply dg_length_lt
  have h5 : b ≤ b * 2 ^ s := Nat.le_mul_of_pos_right _ (Nat.two_pow_pos s)
  have h6 : 4294967296 ^ k ≤ b := by
    have : 4294967296 ^ k * 1 ≤ 4294967296 ^ k * t := Nat.mul_le_mul_left _ (by omega)
    omega
  omega

/-- The dividend, shifted, is below the divisor at the row's end. -/
theorem shift_lt {a b s : Nat} (hb : b ≠ 0) (hab : b ≤ a) : a * 2 ^ s < b * 2 ^ s * 4294967296 ^ ((dg a).length + 1 - (dg b).length) ∧ (dg b).length ≤ (dg a).length := by
  have h1 := le_dg_length (Nat.le_refl (dg a).length)
  have h0 : 0 < (dg b).length := by
    rcases Nat.eq_zero_or_pos (dg b).length with h | h
    · exact absurd (dg_eq_nil.1 (List.length_eq_zero_iff.1 h)) hb
    · exact h
  have hle : (dg b).length ≤ (dg a).length := by
    refine Decidable.byContradiction fun h => ?_
    have := cmp_len (a := a) (b := b) (by omega)
    omega
  refine ⟨?_, hle⟩
  have h2 : 4294967296 ^ ((dg b).length - 1) ≤ b := by
    refine Decidable.byContradiction fun h => ?_
    have := dg_length_le (n := b) (k := (dg b).length - 1) (by omega)
    omega
  have h3 : 4294967296 ^ (dg a).length = 4294967296 ^ ((dg b).length - 1) * 4294967296 ^ ((dg a).length + 1 - (dg b).length) := by
    rw [← Nat.pow_add]
    congr 1
    omega
  have h4 : 4294967296 ^ (dg a).length ≤ b * 4294967296 ^ ((dg a).length + 1 - (dg b).length) := by
    rw [h3]
    exact Nat.mul_le_mul_right _ h2
  have h5 : a * 2 ^ s < b * 4294967296 ^ ((dg a).length + 1 - (dg b).length) * 2 ^ s := Nat.mul_lt_mul_of_pos_right (by omega) (Nat.two_pow_pos s)
  rw [Nat.mul_assoc b, Nat.mul_comm (2 ^ s), ← Nat.mul_assoc]
  exact h5

end Go.Proofs.Ytgmooidagkbheaa
