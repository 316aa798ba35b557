/-
  An argument of type integer.Int, as the rows read it: a sign and digits.
-/
import Derived.Test.YtgmooidagkbheaaIn
import Derived.ProofKit
import Derived.OpenShut
import Derived.SizedLaws
import Derived.ChangeSlices
import Derived.ChangeSame
namespace Go.Proofs.Ytgmooidagkbheaa
open Go.ChangeShapes Go.WideShapes Go.ChangeAt Go.RowKit
set_option linter.unusedVariables false

theorem argC2 : Try.prog.cellsOf 25 = 2 := by kernel_rfl
theorem argCb : Try.prog.cellsOf 4 = 1 := by kernel_rfl
theorem argCs : Try.prog.cellsOf 23 = 1 := by kernel_rfl
theorem argCu : Try.prog.cellsOf 85 = 1 := by kernel_rfl
theorem argBu : Try.prog.bytesOf 85 = 4 := by kernel_rfl

set_option maxRecDepth 100000 in
/-- The argument opened. -/
theorem open_integer {H : Type} {enc : TypeId × Value → H} {W : World} {base b0 : Nat} {r : Reach} {v : Value} {d : DataW H} {p : List MemPlace}
    (hv : Value.okWide Try.prog W r b0 25 v) (h : DataW.Trod enc Try.prog W base (fun _ => true) true 25 v d p)
    (hs : ∀ x ∈ DataW.weights Try.prog 25 d, x ≤ reachBytes) : ∃ g l, Iv W v g l := by
  simp only [Value.okWide, Try.underlying25] at hv
  obtain ⟨cs, rfl, hsz, _⟩ := hv
  obtain ⟨fuel, hf⟩ := h
  obtain ⟨c0, c1, rfl⟩ : ∃ c0 c1, cs = #[c0, c1] := by
    have hsz2 : cs.size = 2 := by rw [hsz, argC2]
    match cs, hsz2 with
    | ⟨[a, b]⟩, _ => exact ⟨a, b, rfl⟩
  obtain ⟨y0, y1, n, hx, _, h0, h1⟩ := trod_struct2 Try.underlying25 hf
  simp only [Prod.mk.injEq] at hx
  obtain ⟨rfl, rfl⟩ := hx
  obtain ⟨g, eg, _⟩ := DataW.trod_bool Try.underlying4 (show DataW.trod enc Try.prog W base (fun _ => true) true n 4 [c0] = some y0 by simpa [Value.cells, argCb] using h0)
  have h1' : DataW.trod enc Try.prog W base (fun _ => true) true n 23 [c1] = some y1 := by simpa [Value.cells, argCs] using h1
  have ec0 : c0 = .bool g := by simpa using eg
  subst ec0
  rcases open_ints Try.underlying23 Try.underlying85 argCu h1' with ⟨hcs, _⟩ | ⟨a, len, cap, zs, hcs, _, hl, hm, hz, hy, hcell, hwz⟩
  · have e1 : c1 = .slice none 0 0 := by simpa using hcs
    subst e1
    exact ⟨g, [], ⟨_, rfl, Nv.nil W⟩⟩
  · have e1 : c1 = .slice (some a) len cap := by simpa using hcs
    subst e1
    have hz2 : zs.length = cap := by simpa using hz
    have hb : ∀ z ∈ zs, 0 ≤ z ∧ z ≤ 4294967295 := fun z hz => bounds_u32 (hwz z hz)
    have hcap : cap ≤ LIM := by
      have hw := hs (cap * 4) (by
        rw [hy]
        simp only [DataW.weights, Try.underlying25, List.map_cons, List.map_nil, DataW.weightsEach, Try.underlying23, argBu]
        apply List.mem_append_right
        apply List.mem_append_left
        have : (lits .u32 (zs.take len) : List (DataW H)).length + (lits .u32 (zs.drop len) : List (DataW H)).length = cap := by
          simp [lits]
          omega
        rw [this]
        exact List.mem_cons_self ..)
      unfold reachBytes at hw
      unfold LIM
      omega
    refine ⟨g, (zs.take len).map Int.toNat, ⟨_, rfl, ⟨some a, cap, ?_, ?_, hcap, ?_, ?_⟩⟩⟩
    · rw [List.length_map, List.length_take]
      congr 1
      omega
    · rw [List.length_map, List.length_take]
      omega
    · intro x hx
      obtain ⟨z, hz', rfl⟩ := List.mem_map.1 hx
      have := hb z (List.mem_of_mem_take hz')
      omega
    · intro hp
      rw [List.length_map, List.length_take] at hp
      have hc0 := hcell 0 (by omega)
      have ea : a.add 0 = a := by simp [Addr.add]
      rw [ea] at hc0
      obtain ⟨b, o, sp⟩ := a
      have hsp : sp = none := by
        cases sp with
        | none => rfl
        | some s =>
          simp only [World.cell?] at hc0
          split at hc0 <;> simp at hc0
      subst hsp
      refine ⟨b, o, rfl, ?_, fun j hj => ?_⟩
      · simp only [World.cell?] at hc0
        rcases Nat.lt_or_ge b W.heap.size with h | h
        · exact h
        · rw [Array.getElem?_eq_none h] at hc0
          simp at hc0
      · rw [List.length_map, List.length_take] at hj
        have hc := hcell j (by omega)
        rw [add_plain'] at hc
        rw [hc]
        congr 2
        rw [List.getD_eq_getElem?_getD, List.getD_eq_getElem?_getD, List.getElem?_map, List.getElem?_take, if_pos (by omega), List.getElem?_eq_getElem (by omega)]
        have := hb zs[j] (List.getElem_mem _)
        simp
        omega

end Go.Proofs.Ytgmooidagkbheaa
