/-
  cylinderlaw03.DivisionCommon returns true at every input, and each argument reads behind the call as it read before: the row.
-/
import Derived.Test.YtgmooidagkbheaaCm
import Derived.Test.YtgmooidagkbheaaArg
import Derived.Test.YtgmooidagkbheaaRows
import Derived.WalkKit
import Derived.ProofKit
import Derived.OpenShut
import Derived.ShutString
import Derived.ChangeOld
import Derived.Below
import Derived.SizedLaws
namespace Go.Proofs.Ytgmooidagkbheaa.common
open Go.ChangeShapes Go.WideShapes Go.ChangeAt Go.RowKit
set_option linter.unusedVariables false

theorem own : ownKnob Try.prog.godebug = none := by kernel_rfl
theorem laidOut : laidOutB Try.prog = true := by kernel_rfl
theorem weigh {H : Type} {t : TypeId} {ts : List TypeId} {d : DataW H} {r : List (DataW H)} (h : (DataW.weightsEach Try.prog (t :: ts) (d :: r)).all (· ≤ reachBytes) = true) :
    (∀ x ∈ DataW.weights Try.prog t d, x ≤ reachBytes) ∧ (DataW.weightsEach Try.prog ts r).all (· ≤ reachBytes) = true := by
  simp only [DataW.weightsEach, List.all_append, Bool.and_eq_true] at h
  exact ⟨fun x hx => of_decide_eq_true (List.all_eq_true.1 h.1 x hx), h.2⟩

set_option maxRecDepth 100000 in
theorem lifted (os : Os) (started : os.Started) (H : Type) (enc : TypeId × Value → H) :
    ReturnsInHanded {} Try.checked os 5 .any (Rows.divisionCommonSpec.pre6 enc Try.prog Try.f5 Rows.divisionCommonRow.domain false) (Rows.divisionCommonSpec.post enc Try.prog Try.f5 false true false false) := by
  refine returnsInHanded_of_change_sized (C := Try.checked) own started (by kernel_rfl) Try.func5
    (ChangeSpec.witness6 (enc := enc) (C := Try.checked) false ⟨#[], #[.agg #[.bool false, .slice none 0 0], .agg #[.bool false, .slice none 0 0], .agg #[.bool false, .slice none 0 0]], []⟩ 8 (by kernel_rfl) (by kernel_rfl) (by kernel_rfl) (by kernel_rfl)) ?_
  intro W base args ds gs before hval0 hW hcnd hsz0 _
  have hsz : (DataW.weightsEach Try.prog (Try.f5.params.toList ++ Rows.divisionCommonSpec.plain.varTypes Try.prog) (ds ++ gs)).all (· ≤ reachBytes) = true := hsz0
  have hval : ∀ (j : Nat) t v, Try.f5.params[j]? = some t → args[j]? = some v → Value.okWide Try.prog W .any base t v := hval0
  have hW' := hW
  obtain ⟨p, q, hA0, hV, rfl, hfz, hnd⟩ := hW
  have hA : DataW.TrodAll enc Try.prog W 0 (fun _ => true) true Try.f5.params.toList args.toList ds p := hA0
  rw [Try.params5] at hA hval hsz
  obtain ⟨v0, vs0, d0, ds0, p0, q0, hargs, rfl, rfl, h0, r0⟩ := trodAll_cons hA
  obtain ⟨v1, vs1, d1, ds1, p1, q1, rfl, rfl, rfl, h1, r1⟩ := trodAll_cons r0
  obtain ⟨v2, vs2, d2, ds2, p2, q2, rfl, rfl, rfl, h2, r2⟩ := trodAll_cons r1
  obtain ⟨rfl, rfl, rfl⟩ := trodAll_nil r2
  obtain rfl : args = #[v0, v1, v2] := by cases args; simp_all
  obtain ⟨rfl, rfl⟩ := trodVars_none hV
  obtain ⟨z0, hs0⟩ := weigh (t := 25) hsz
  have k0 := h0
  have lt0 : ∀ x ∈ p0, x.block < W.heap.size := by obtain ⟨m, hm⟩ := k0; exact DataW.trod_lt m _ _ _ hm
  obtain ⟨g0, l0, x0⟩ := open_integer (hval 0 25 v0 rfl rfl) h0 z0
  obtain ⟨z1, hs1⟩ := weigh (t := 25) hs0
  have k1 := h1
  have lt1 : ∀ x ∈ p1, x.block < W.heap.size := by obtain ⟨m, hm⟩ := k1; exact DataW.trod_lt m _ _ _ hm
  obtain ⟨g1, l1, x1⟩ := open_integer (hval 1 25 v1 rfl rfl) h1 z1
  obtain ⟨z2, hs2⟩ := weigh (t := 25) hs1
  have k2 := h2
  have lt2 : ∀ x ∈ p2, x.block < W.heap.size := by obtain ⟨m, hm⟩ := k2; exact DataW.trod_lt m _ _ _ hm
  obtain ⟨g2, l2, x2⟩ := open_integer (hval 2 25 v2 rfl rfl) h2 z2
  clear hA0 hval0 hsz0 hsz
  refine (walk v0 g0 l0 v1 g1 l1 v2 g2 l2 W x0 x1 x2).mono fun e W' ⟨he, bel⟩ => ?_
  subst he
  exact ⟨_, rfl, _, _, _, [], _, [], hW', trodAll_mk1 (shut_bool Try.underlying4 _), (trodAll_cons_mk (Below.trod laidOut (by kernel_rfl) (of_decide_eq_true (by kernel_rfl)) k0 bel lt0) (trodAll_cons_mk (Below.trod laidOut (by kernel_rfl) (of_decide_eq_true (by kernel_rfl)) k1 bel lt1) (trodAll_cons_mk (Below.trod laidOut (by kernel_rfl) (of_decide_eq_true (by kernel_rfl)) k2 bel lt2) trodAll_mk0))), rfl, bel.frame _, fun h => by cases h⟩

theorem over : Rows.divisionCommonRow.holds Try.pinned (OpenSpec.ofChange Rows.divisionCommonSpec) :=
  OpenClaim.holds_of_wide 5 Try.f5 rfl rfl rfl rfl rfl rfl rfl ⟨rfl, rfl, rfl, rfl, rfl⟩ rfl rfl rfl rfl rfl (by kernel_rfl) Try.func5 (by kernel_rfl)
    (of_decide_eq_true (by kernel_rfl)) (by unfold Func.isWrapper; first | (rw [if_pos (by decide +kernel)]; kernel_rfl) | (rw [if_neg (by decide +kernel)]; exact ⟨rfl, rfl⟩))
    (fun os started H enc _ => lifted os started H enc)
theorem proved : Rows.DivisionCommonSaid := over
end Go.Proofs.Ytgmooidagkbheaa.common
namespace Go.Proofs.Ytgmooidagkbheaa
theorem divisionCommon_holds : Rows.DivisionCommonSaid := common.proved
#print axioms divisionCommon_holds
end Go.Proofs.Ytgmooidagkbheaa
