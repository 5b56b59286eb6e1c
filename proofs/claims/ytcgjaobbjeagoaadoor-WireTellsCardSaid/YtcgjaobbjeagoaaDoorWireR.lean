/- Kept. -/
import Derived.Test.YtcgjaobbjeagoaaDoorWireQ
namespace Go.Proofs.YtcgjaobbjeagoaaDoor
open Go.RowKit Go.Proofs.YtcgjaobbjeagoaaDoorW.PrintWords Go.Proofs.YtcgjaobbjeagoaaDoorW.PrintLast Go.Proofs.YtcgjaobbjeagoaaDoorW.PrintMore
set_option linter.unusedVariables false
set_option linter.unusedSimpArgs false

theorem spare3_lo (l0 : List Int) (i : Nat) (h : i < l0.length) : (spareC l0 3)[i]? = some (.int .u8 (rd l0 (i : Int))) := by
  simp [spareC, List.getElem?_append_left, h, rd_get h]
theorem spare3_hi (l0 : List Int) (i : Nat) (h : l0.length ≤ i) (h2 : i < l0.length + 3) : (spareC l0 3)[i]? = some (.int .u8 77) := by
  have : i = l0.length + 0 ∨ i = l0.length + 1 ∨ i = l0.length + 2 := by omega
  rcases this with rfl | rfl | rfl <;> simp [spareC, List.getElem?_append_right, List.replicate]

set_option maxHeartbeats 4000000 in
set_option maxRecDepth 100000 in
theorem Kept_calls (g : Nat) (A1 : Option Addr) (c1 : Nat) (l0 : List Int) (w0 w : World) (hg : w0.heap.size ≤ g) (hB : Below w0.heap.size w0 w)
    (hbk : w.heap[g]? = some (.cells (spareC l0 3) 5 (0, 0))) (hr : Kd.C (Kd.int .u8) w0 A1 l0.length l0) (hl : l0.length ≤ 140737488355318) :
    Calls Tryd.prog 19 #[.slice (some ⟨g, 0, none⟩) l0.length (l0.length + 3), .slice A1 l0.length c1] w
      fun e w' => e = .returned (.bool true) ∧ Below w0.heap.size w0 w' := by
  have HR := Aside0.mk hr; have HB := Aside0.mk hB; have BK := Aside0.mk hbk; have HG := Aside0.mk hg
  clear hr hB hbk hg
  obtain ⟨n, hn⟩ : ∃ n, n = l0.length := ⟨_, rfl⟩
  rw [← hn] at hl ⊢
  have HN := Aside0.mk hn; clear hn
  have d1 : decide ((n : Int) + 3 ≤ ((n + 3 : Nat) : Int)) = true := decide_eq_true (by omega)
  go_enter Tryd.func19, Tryd.ntmps19
  go_wp2
  go_loopw [7] (fun v wr => ∃ i : Int, v = .int .i64 i ∧ 0 ≤ i ∧ i ≤ (n : Int) + 3 ∧ Aside0 (∃ cs, wr.heap[g]? = some (.cells cs 5 (0, 0)) ∧ ∀ j : Nat, i ≤ (j : Int) → cs[j]? = (spareC l0 3)[j]?) ∧ Aside0 (Below w0.heap.size w0 wr)) (fun v _ => ((n : Int) + 3 - intOf v).toNat)
  case atStart => exact ⟨0, rfl, by omega, by omega, ⟨_, BK.out, fun j _ => rfl⟩, HB⟩
  case round =>
    clear HB BK
    obtain ⟨i, rfl, hi0, hi1, BK, HB⟩ := hrel
    by_cases hx : i < (n : Int) + 3
    · have dx : decide (i < (n : Int) + 3) = true := decide_eq_true hx
      obtain ⟨cs, hcs, hrest⟩ := BK.out
      by_cases hin : i < (n : Int)
      · have dn : decide (i < (n : Int)) = true := decide_eq_true hin
        have dn2 : decide ((n : Int) ≤ i) = false := decide_eq_false (by omega)
        obtain ⟨x, hxx⟩ : ∃ x, x = rd l0 i := ⟨_, rfl⟩
        have hcl : wr.cell? ⟨g, i.toNat, none⟩ = some (.int .u8 x) := by
          rw [blk_cell hcs, hrest _ (by omega), spare3_lo l0 i.toNat (by have := HN.out; omega), Int.toNat_of_nonneg hi0, hxx]
        have hfr := blk_frozen hcs i.toNat
        have hrc := Kd.C_below HR.out HB.out
        rw [← HN.out] at hrc
        obtain ⟨ad, e, hcell⟩ := Kd.at_int hrc i hi0 hin
        cases e
        rw [← hxx] at hcell
        have hcs2 := Aside0.mk hcs; have hrest2 := Aside0.mk hrest
        clear hcs hrest BK hrc hxx
        go_wp2
        go_quiet (fail)
        go_wp2
        exact ⟨⟨i + 1, rfl, by omega, by omega, ⟨_, blk_put (w := wr.drewN nq) hcs2.out i.toNat _ rfl, fun j hj => by rw [Array.getElem?_setIfInBounds_ne (by omega)]; exact hrest2.out j (by omega)⟩, ⟨Below.setCell (pw_below_drewN HB.out nq) HG.out _⟩⟩, by simp only [intOf]; omega⟩
      · have dn : decide (i < (n : Int)) = false := decide_eq_false hin
        have dn2 : decide ((n : Int) ≤ i) = true := decide_eq_true (by omega)
        have hcl : wr.cell? ⟨g, i.toNat, none⟩ = some (.int .u8 77) := by
          rw [blk_cell hcs, hrest _ (by omega), spare3_hi l0 i.toNat (by have := HN.out; omega) (by have := HN.out; omega)]
        have hfr := blk_frozen hcs i.toNat
        have hcs2 := Aside0.mk hcs; have hrest2 := Aside0.mk hrest
        clear hcs hrest BK
        go_wp2
        go_quiet (fail)
        go_wp2
        exact ⟨⟨i + 1, rfl, by omega, by omega, ⟨_, blk_put (w := wr.drewN nq) hcs2.out i.toNat _ rfl, fun j hj => by rw [Array.getElem?_setIfInBounds_ne (by omega)]; exact hrest2.out j (by omega)⟩, ⟨Below.setCell (pw_below_drewN HB.out nq) HG.out _⟩⟩, by simp only [intOf]; omega⟩
    · have dx : decide (i < (n : Int) + 3) = false := decide_eq_false hx
      go_wp2
      go_ret
      exact ⟨rfl, HB.out⟩
end Go.Proofs.YtcgjaobbjeagoaaDoor
