/-
  A row of digits that a call has made itself, its block known whole: reading, storing, making.
-/
import Derived.Test.YtgmooidagkbheaaTrim
import Derived.Laws.CopyOwn
import Derived.Laws.MakeOwn
import Derived.Laws.OwnMore
namespace Go.Proofs.Ytgmooidagkbheaa
open Go.RowKit Go.Proofs.YtgmooidagkbheaaW.PrintWords
set_option linter.unusedVariables false

/-- Digits as values. -/
def dgs (l : List Nat) : List Value := l.map fun n : Nat => .int .u32 (n : Int)
theorem dgs_length (l : List Nat) : (dgs l).length = l.length := by simp [dgs]
theorem dgs_get (l : List Nat) (j : Nat) (h : j < l.length) : (dgs l)[j]? = some (.int .u32 ((l.getD j 0 : Nat) : Int)) := by
  simp [dgs, List.getElem?_eq_getElem h, List.getD_eq_getElem?_getD]
theorem dgs_one (l : List Nat) : ∀ v ∈ dgs l, v.oneCell' = true := by
  intro v hv
  obtain ⟨n, _, rfl⟩ := List.mem_map.1 hv
  rfl

/-- The block g holds just these digits. -/
structure Row (w : World) (g : Nat) (l : List Nat) : Prop where mk ::
  out : w.heap[g]? = some (.cells (dgs l).toArray 85 (0, 0))

theorem Row.lt {w : World} {g : Nat} {l : List Nat} (h : Row w g l) : g < w.heap.size := (Array.getElem?_eq_some_iff.1 h.out).1
theorem Row.below {w w' : World} {B g : Nat} {l : List Nat} (h : Row w g l) (hb : Below B w w') (hg : g < B) : Row w' g l := ⟨(hb.block g hg).trans h.out⟩
theorem Row.keep {w w' : World} {g : Nat} {l : List Nat} (h : Row w g l) (hb : Below w.heap.size w w') : Row w' g l := h.below hb h.lt
theorem Row.cell {w : World} {g : Nat} {l : List Nat} (h : Row w g l) (j : Nat) (hj : j < l.length) : w.cell? ⟨g, j, none⟩ = some (.int .u32 ((l.getD j 0 : Nat) : Int)) := by
  have h1 := dgs_get l j hj
  simp only [World.cell?, h.out]
  simpa using h1
theorem Row.frozen {w : World} {g : Nat} {l : List Nat} (h : Row w g l) (j : Nat) : w.frozen? ⟨g, j, none⟩ = false := by
  simp [World.frozen?, h.out]
theorem Row.store {w : World} {g : Nat} {l : List Nat} (h : Row w g l) (j x : Nat) (hj : j < l.length) : Row (w.setCell ⟨g, j, none⟩ (.int .u32 (x : Int))) g (l.set j x) := by
  refine ⟨?_⟩
  rw [heap_setCell_same w g j _ _ _ h.out]
  congr 2
  simp [dgs, List.map_set]
theorem Row.drewN {w : World} {g : Nat} {l : List Nat} (h : Row w g l) (n : Nat) : Row (w.drewN n) g l := ⟨h.out⟩
theorem Row.drew {w : World} {g : Nat} {l : List Nat} (h : Row w g l) : Row w.drew g l := ⟨h.out⟩
theorem Row.alloc {w : World} {g : Nat} {l : List Nat} (h : Row w g l) (o : Obj) : Row (w.alloc o) g l := h.keep ((Below.refl _ _).alloc (Nat.le_refl _) _)
theorem Row.other {w : World} {g : Nat} {l : List Nat} (h : Row w g l) (a : Addr) (v : Value) (hne : g ≠ a.block) : Row (w.setCell a v) g l := ⟨(Below.heap_setCell w a v g hne).trans h.out⟩
theorem Row.made (w : World) (l : List Nat) : Row (w.alloc (.cells (dgs l).toArray 85)) w.heap.size l := by
  refine ⟨?_⟩
  show (w.heap.push _)[w.heap.size]? = _
  simp
/-- A part of a row reads as digits. -/
theorem Row.nv {w : World} {g : Nat} {l : List Nat} (h : Row w g l) (o n c : Nat) (ho : o + n ≤ l.length) (hc : n ≤ c) (hc2 : c ≤ LIM) (hd : ∀ x ∈ l, x < 4294967296) :
    Nv w (.slice (some ⟨g, o, none⟩) n c) ((l.drop o).take n) := by
  have hl : ((l.drop o).take n).length = n := by rw [List.length_take, List.length_drop]; omega
  refine ⟨some ⟨g, o, none⟩, c, by rw [hl], by omega, hc2, fun x hx => hd x (List.mem_of_mem_drop (List.mem_of_mem_take hx)), fun _ => ⟨g, o, rfl, h.lt, fun j hj => ?_⟩⟩
  rw [h.cell (o + j) (by omega)]
  congr 3
  rw [List.getD_eq_getElem?_getD, List.getD_eq_getElem?_getD, List.getElem?_take, if_pos (by omega), List.getElem?_drop]
theorem Row.nv0 {w : World} {g : Nat} {l : List Nat} (h : Row w g l) (c : Nat) (hc : l.length ≤ c) (hc2 : c ≤ LIM) (hd : ∀ x ∈ l, x < 4294967296) :
    Nv w (.slice (some ⟨g, 0, none⟩) l.length c) l := by
  have := h.nv 0 l.length c (by omega) hc hc2 hd
  simpa using this

/-- make: a row of zeros. -/
theorem run_make_digits (n : Nat) (h : n ≤ LIM) (W : World) :
    (Instr.makeSlice 23 (.int .i64 (n : Int)) (.int .i64 (n : Int))).run Try.prog W = .ok (.slice (some ⟨W.heap.size, 0, none⟩) n n) (W.alloc (.cells (dgs (List.replicate n 0)).toArray 85)) := by
  unfold LIM at h
  obtain ⟨i, hi, hz, hsz, hby⟩ := info_parts infoU32
  have := run_make (P := Try.prog) (w := W) 23 85 i (.int .u32 0) Try.underlying23 hi hz .i64 .i64 (n : Int) (n : Int) (by omega) (by omega) (by rw [hby]; omega) (by omega)
  have e1 : (Value.int IntKind.u32 0).cells = #[.int .u32 0] := rfl
  have e2 : madeCells #[Value.int IntKind.u32 0] n = (dgs (List.replicate n 0)).toArray := by
    rw [← Array.toList_inj, toList_madeCells_one]
    simp [dgs]
  rw [this, hsz, e1, Nat.mul_one, Int.toNat_natCast, e2]

theorem splice_all (a b : List Value) (h : a.length = b.length) : splice a 0 b = b := by
  simp [splice, h]
theorem add_plain' (b o j : Nat) : (⟨b, o, none⟩ : Addr).add j = ⟨b, o + j, none⟩ := by unfold Addr.add; split <;> simp_all

/-! ### natural.Normal -/
theorem trimL_length (l : List Nat) : (trimL l).length = tn l l.length := by
  unfold trimL
  rw [List.length_take]
  have := tn_le l l.length
  omega
theorem trimL_digits {l : List Nat} (h : ∀ x ∈ l, x < 4294967296) : ∀ x ∈ trimL l, x < 4294967296 := fun x hx => h x (List.mem_of_mem_take hx)

set_option maxHeartbeats 1000000 in
set_option maxRecDepth 100000 in
theorem normal_calls (v : Value) (l : List Nat) (w : World) (h : Nv w v l) :
    Calls Try.prog 60 #[v] w fun e w' => (∃ v', e = .returned v' ∧ Nv w' v' (trimL l)) ∧ Below w.heap.size w w' := by
  have HT := Lib.hid (trim_calls v l w h)
  have hlen : (trimL l).length ≤ LIM := by
    rw [trimL_length]
    have := tn_le l l.length
    have := h.len
    omega
  have HDG := Lib.hid (trimL_digits h.digits)
  clear h
  obtain ⟨r, er⟩ : ∃ r, trimL l = r := ⟨_, rfl⟩
  rw [er] at HT hlen HDG ⊢
  clear er
  have hmk := run_make_digits r.length hlen
  have hhalf : r.length ≤ 9223372036854775807 := by unfold LIM at hlen; omega
  go_enter Try.func60, Try.ntmps60
  go_wp2_with fail
  refine (HT.out).mono ?_
  rintro e w1 ⟨v1, rfl, hv, rfl⟩
  obtain ⟨A, c, rfl, h1, h2, hv2⟩ := hv.open_
  have HV := Lib.hid hv2
  clear hv hv2
  have hsz1 : (Try.prog.info? 85).map (·.size) = some 1 := by kernel_rfl
  have HR := Lib.hid (Row.made w (List.replicate r.length 0))
  have HS := Lib.hid hsz1
  have H2 := Lib.hid h2
  clear hsz1 h2
  go_wp2_with (with_reducible refine wpList_copy_splice rfl (.tmp 9) (.tmp 10) 23 23 rfl 85 Try.underlying23 HS.out _ _ _ _ _ _ rfl rfl w.heap.size 0 (dgs (List.replicate r.length 0)) 85 HR.out.out (dgs r) ?k1 ?k2 ?k3 (dgs_one r) w.heap.size w ?k4 (Nat.le_refl _) ?_)
  case k1 => rw [dgs_length]; exact (Nat.min_self _).symm
  case k2 =>
    intro hp
    rw [dgs_length] at hp
    try refine ⟨rfl, ?_⟩
    obtain ⟨b, o, rfl, hlt, hc⟩ := HV.out.at_ hp
    refine ⟨_, rfl, fun j v hj => ?_⟩
    have hjl : j < r.length := by
      have := (List.getElem?_eq_some_iff.1 hj).1
      rw [dgs_length] at this
      exact this
    rw [dgs_get r j hjl] at hj
    cases hj
    rw [add_plain']
    exact (((Below.refl w.heap.size w).alloc (Nat.le_refl _) _).cell (p := ⟨b, o + j, none⟩) hlt).trans (hc j hjl)
  case k3 => rw [dgs_length, dgs_length, List.length_replicate]; omega
  case k4 => exact (Below.refl _ _).alloc (Nat.le_refl _) _
  intro w2 HG2 hB2
  have HR2 : Hid (Row w2 w.heap.size r) := Lib.hid ⟨by
    have := HG2.out
    rw [splice_all _ _ (by rw [dgs_length, dgs_length, List.length_replicate])] at this
    exact this⟩
  have HB2 := Lib.hid hB2
  clear HG2 hB2
  go_wp2_with fail
  go_ret
  refine ⟨⟨_, rfl, HR2.out.nv0 _ (Nat.le_refl _) (Nat.le_trans h1 H2.out) HDG.out⟩, HB2.out⟩

end Go.Proofs.Ytgmooidagkbheaa
