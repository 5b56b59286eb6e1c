/- Lent. (under way) -/
import Derived.Test.YtcgjaobbjeagoaaDoorWireP
import Derived.Laws.CopyRow
import Derived.Laws.IdiomCopy
import Derived.Laws.MakeOwn
import Derived.Deep.WholeRow
namespace Go.Proofs.YtcgjaobbjeagoaaDoor
open Go.RowKit Go.Proofs.YtcgjaobbjeagoaaDoorW.PrintWords Go.Proofs.YtcgjaobbjeagoaaDoorW.PrintLast Go.Proofs.YtcgjaobbjeagoaaDoorW.PrintMore
set_option linter.unusedVariables false
set_option linter.unusedSimpArgs false

theorem made_one (z : Value) (n : Nat) : madeCells #[z] n = (List.replicate n z).toArray := by
  apply Array.ext
  · simp [madeCells]
  · intro i h1 h2
    simp [madeCells, Nat.mod_one]
theorem infoS : (Tryd.prog.info? 5).map (·.size) = some 1 := by kernel_rfl
theorem lent_copy (w : World) (A0 : Option Addr) (c0 : Nat) (l0 : List Int) (hr : Kd.C (Kd.int .u8) w A0 l0.length l0) :
    (Builtin.copy_ #[23, 23] 3 #[.slice (some ⟨w.heap.size, 0, none⟩) l0.length (l0.length + 3), .slice A0 l0.length c0]).run Tryd.prog (w.alloc (.cells (madeCells #[.int .u8 0] (l0.length + 3)) 5)) =
      .ok (goInt l0.length) (w.alloc (.cells (l0.map (Value.int .u8) ++ [Value.int .u8 0, Value.int .u8 0, Value.int .u8 0]).toArray 5)) := by
  rw [made_one]
  by_cases h0 : l0.length = 0
  · have hnil : l0 = [] := List.eq_nil_of_length_eq_zero h0
    subst hnil
    have h := run_copy_none (P := Tryd.prog) (w.alloc (.cells (List.replicate 3 (Value.int .u8 0)).toArray 5)) 23 23 3 5 (some ⟨w.heap.size, 0, none⟩) A0 0 3 0 c0 Tryd.underlying23 infoS (by simp)
    exact h
  · have hrd := Kd.C_alloc hr (.cells (List.replicate (l0.length + 3) (Value.int .u8 0)).toArray 5)
    obtain ⟨ad, hA, _⟩ := hr.2.2 (by omega)
    subst hA
    have hsrc : ∀ j v, (l0.map (Value.int .u8))[j]? = some v → (w.alloc (.cells (List.replicate (l0.length + 3) (Value.int .u8 0)).toArray 5)).cell? (ad.add j) = some v := by
      intro j v hj
      obtain ⟨x, hx, rfl⟩ : ∃ x, l0[j]? = some x ∧ v = .int .u8 x := by
        rw [List.getElem?_map] at hj
        cases hg : l0[j]? with
        | none => rw [hg] at hj; simp at hj
        | some x => rw [hg] at hj; simp at hj; exact ⟨x, rfl, hj.symm⟩
      have hjl : j < l0.length := (List.getElem?_eq_some_iff.1 hx).1
      obtain ⟨ad2, e, hc⟩ := Kd.at_int hrd (j : Int) (by omega) (by omega)
      cases e
      rw [Int.toNat_natCast, rd_get hjl] at hc
      rw [hc]
      have := (List.getElem?_eq_some_iff.1 hx).2
      rw [this]
    have h := run_copy_row (P := Tryd.prog) (w.alloc (.cells (List.replicate (l0.length + 3) (Value.int .u8 0)).toArray 5)) 23 23 3 5 w.heap.size 0 l0.length (l0.length + 3) ad l0.length c0 _ 5 (l0.map (Value.int .u8)) Tryd.underlying23 infoS (MapKept.heap_alloc w _).1 (by simp) hsrc (by simp) (by intro v hv; obtain ⟨x, _, rfl⟩ := List.mem_map.1 hv; rfl)
    rw [List.length_map] at h
    rw [h, World.setRow_alloc_new]
    congr 4
    simp
/-- Lent bytes with k marks in their spare room. -/
def spareC (l0 : List Int) (k : Nat) : Array Value := (l0.map (Value.int .u8) ++ (List.replicate k (Value.int .u8 77) ++ List.replicate (3 - k) (Value.int .u8 0))).toArray
theorem spare_at (l0 : List Int) (k : Nat) (hk : k < 3) : (spareC l0 k)[l0.length + k]? = some (.int .u8 0) ∧ (spareC l0 k).setIfInBounds (l0.length + k) (.int .u8 77) = spareC l0 (k + 1) := by
  have h3 : k = 0 ∨ k = 1 ∨ k = 2 := by omega
  constructor
  · rcases h3 with rfl | rfl | rfl <;> simp [spareC, List.getElem?_append_right]
  · have hl : (l0.map (Value.int .u8)).length = l0.length := by simp
    unfold spareC
    rw [List.setIfInBounds_toArray, List.set_append_right _ _ (by rw [hl]; omega), hl]
    congr 2
    rcases h3 with rfl | rfl | rfl <;> simp [List.replicate, List.set]
set_option maxHeartbeats 4000000 in
set_option maxRecDepth 100000 in
theorem Lent_calls (A0 : Option Addr) (c0 : Nat) (l0 : List Int) (w : World)
    (hr0 : Kd.C (Kd.int .u8) w A0 l0.length l0) (hl : l0.length ≤ 140737488355318) :
    Calls Tryd.prog 15 #[.slice A0 l0.length c0] w
      fun e w' => ∃ g, e = .returned (.slice (some ⟨g, 0, none⟩) l0.length (l0.length + 3)) ∧ w.heap.size ≤ g ∧ w'.heap[g]? = some (.cells (l0.map (Value.int .u8) ++ [Value.int .u8 77, Value.int .u8 77, Value.int .u8 77]).toArray 5 (0, 0)) ∧ Below w.heap.size w w' := by
  have HR := Aside0.mk hr0
  clear hr0
  obtain ⟨n, hn⟩ : ∃ n, n = l0.length := ⟨_, rfl⟩
  rw [← hn] at hl ⊢
  have HN := Aside0.mk hn; clear hn
  have hmk : ∀ W : World, (Instr.makeSlice 23 (.int .i64 (n : Int)) (.int .i64 ((n : Int) + 3))).run Tryd.prog W = .ok (.slice (some ⟨W.heap.size, 0, none⟩) n (n + 3)) (W.alloc (.cells (madeCells #[.int .u8 0] (n + 3)) 5)) := by
    intro W
    obtain ⟨i0, hi0, hz0, hsz0, hby⟩ := info_parts infoB
    have h := run_make (P := Tryd.prog) W 23 5 i0 (.int .u8 0) Tryd.underlying23 hi0 hz0 .i64 .i64 (n : Int) ((n : Int) + 3) (by omega) (by omega) (by rw [hby]; omega) (by omega)
    rw [hsz0, Nat.mul_one, show ((n : Int) + 3).toNat = n + 3 by omega, Int.toNat_natCast] at h
    exact h
  go_enter Tryd.func15, Tryd.ntmps15
  have hcp := lent_copy w A0 c0 l0 HR.out
  rw [← HN.out] at hcp
  go_wp2
  go_loopw [5] (fun v5 wr => ∃ i : Int, v5 = .int .i64 i ∧ (n : Int) ≤ i ∧ i ≤ (n : Int) + 3 ∧ Aside0 (wr.heap[w.heap.size]? = some (.cells (spareC l0 (i - (n : Int)).toNat) 5 (0, 0))) ∧ Aside0 (Below w.heap.size w wr)) (fun v5 _ => ((n : Int) + 3 - intOf v5).toNat)
  case atStart => exact ⟨_, rfl, by omega, by omega, ⟨by rw [show ((n : Int) - (n : Int)).toNat = 0 by omega]; exact (MapKept.heap_alloc w _).1⟩, ⟨below_alloc (Below.refl _ _) _⟩⟩
  case round =>
    obtain ⟨i, rfl, hi0, hi1, BK, HB⟩ := hrel
    by_cases hx : i < (n : Int) + 3
    · have dx : decide (i < (n : Int) + 3) = true := decide_eq_true hx
      obtain ⟨f1, f2⟩ := spare_at l0 (i - (n : Int)).toNat (by omega)
      rw [← HN.out, show n + (i - (n : Int)).toNat = i.toNat by omega] at f1 f2
      rw [show (i - (n : Int)).toNat + 1 = (i + 1 - (n : Int)).toNat by omega] at f2
      have hcl := (blk_cell BK.out i.toNat).trans f1
      have hfr := blk_frozen BK.out i.toNat
      have BK2 := Aside0.mk (blk_put BK.out i.toNat (.int .u8 77) f2)
      have HB2 := Aside0.mk (below_set HB.out (g := w.heap.size) (j := i.toNat) (v := .int .u8 77) (Nat.le_refl _))
      clear f1 f2
      go_wp2
      exact ⟨⟨i + 1, rfl, by omega, by omega, BK2, HB2⟩, by simp only [intOf]; omega⟩
    · have dx : decide (i < (n : Int) + 3) = false := decide_eq_false hx
      have hie : (i - (n : Int)).toNat = 3 := by omega
      rw [hie] at BK
      go_wp2
      go_ret
      exact ⟨_, rfl, Nat.le_refl _, by rw [BK.out]; rfl, HB.out⟩
end Go.Proofs.YtcgjaobbjeagoaaDoor
