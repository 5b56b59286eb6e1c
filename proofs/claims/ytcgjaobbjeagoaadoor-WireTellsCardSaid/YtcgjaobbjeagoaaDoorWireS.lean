/- WireReads. -/
import Derived.Test.YtcgjaobbjeagoaaDoorWireR
import Derived.Test.YtcgjaobbjeagoaaDoorWireG
namespace Go.Proofs.YtcgjaobbjeagoaaDoor
open Go.RowKit Go.Proofs.YtcgjaobbjeagoaaDoorW.PrintWords Go.Proofs.YtcgjaobbjeagoaaDoorW.PrintLast Go.Proofs.YtcgjaobbjeagoaaDoorW.PrintMore
set_option linter.unusedVariables false
set_option linter.unusedSimpArgs false

theorem lent_reads {W : World} {g : Nat} {l0 : List Int} (hl : l0.length ≤ 9223372036854775807) (h : W.heap[g]? = some (.cells (spareC l0 3) 5 (0, 0))) : Kd.C (Kd.int .u8) W (some ⟨g, 0, none⟩) l0.length l0 := by
  refine C_of_cells hl (fun j x hx => ?_)
  have hj : j < l0.length := (List.getElem?_eq_some_iff.1 hx).1
  rw [blk_cell h, spare3_lo l0 j hj, rd_get hj, (List.getElem?_eq_some_iff.1 hx).2]

set_option maxHeartbeats 4000000 in
set_option maxRecDepth 100000 in
theorem WireReads_calls (A0 : Option Addr) (c0 : Nat) (l0 : List Int) (at_ : Int) (w : World) (hT : Tab w)
    (hr0 : Kd.C (Kd.int .u8) w A0 l0.length l0) (hc0 : l0.length ≤ c0) (hb : ∀ x ∈ l0, 0 ≤ x ∧ x < 256) (hl : l0.length ≤ 140737488355318) (ha1 : -9223372036854775808 ≤ at_) (ha2 : at_ ≤ 9223372036854775807) :
    Calls Tryd.prog 5 #[.slice A0 l0.length c0, .int .i64 at_] w fun e w' => e = .returned (.bool true) ∧ Below w.heap.size w w' := by
  have HT := Aside0.mk hT; have HR := Aside0.mk hr0; have HX := Aside0.mk hb
  clear hT hr0 hb
  have h1 := fun A c W (h : Kd.C (Kd.int .u8) W A l0.length l0) (hc : l0.length ≤ c) => ReadNum_calls A c l0 at_ W h hc HX.out hl ha1 ha2
  have h2 := fun A c W (h : Kd.C (Kd.int .u8) W A l0.length l0) (hc : l0.length ≤ c) => ReadInt_calls A c l0 at_ W h hc HX.out hl ha1 ha2
  have h3 := fun A c W (h : Kd.C (Kd.int .u8) W A l0.length l0) (hc : l0.length ≤ c) => ReadText_calls A c l0 at_ W h hc HX.out hl ha1 ha2
  have k1 := fun A c W (h : Kd.C (Kd.int .u8) W A l0.length l0) (hc : l0.length ≤ c) => rReadNum_calls A c l0 at_ W h hc HX.out hl ha1 ha2
  have k2 := fun A c W (h : Kd.C (Kd.int .u8) W A l0.length l0) => rReadInt_calls A c l0 at_ W h HX.out hl ha1 ha2
  have k3 := fun A c W (h : Kd.C (Kd.int .u8) W A l0.length l0) (hc : l0.length ≤ c) => rReadText_calls A c l0 at_ W h hc HX.out hl ha1 ha2
  generalize tk l0 at_ 9 = t1 at h1 k1
  generalize tk l0 at_ 10 = t2 at h2 k2
  generalize rtF l0 at_ = t3 at h3 k3
  go_enter Tryd.func5, Tryd.ntmps5
  go_wp2_with fail
  ((with_reducible refine (awake_calls _ HT.out).mono ?_); rintro e_ W1 ⟨rfl, hb_⟩)
  have HB := Aside0.mk hb_; clear hb_
  go_wp2_with fail
  ((with_reducible refine (Lent_calls A0 c0 l0 _ (Kd.C_below HR.out HB.out) hl).mono ?_); rintro e_ W2 ⟨g, rfl, hg_, bk_, hb_⟩)
  have HG := Aside0.mk (Nat.le_trans HB.out.size hg_)
  have HBn := Aside0.mk (below_step HB.out hb_); clear HB hb_ hg_; have HB := HBn; clear HBn
  have BK : Aside0 (W2.heap[g]? = some (.cells (spareC l0 3) 5 (0, 0))) := ⟨bk_⟩
  clear bk_
  have HC := Aside0.mk (lent_reads (by omega) BK.out)
  go_wp2_with fail
  ((with_reducible refine (h1 _ _ _ HC.out (by omega)).mono ?_); rintro e_ W3 ⟨rfl, rfl⟩)
  go_wp2_with fail
  ((with_reducible refine (h2 _ _ _ HC.out (by omega)).mono ?_); rintro e_ W4 ⟨rfl, rfl⟩)
  go_wp2_with fail
  ((with_reducible refine (h3 _ _ _ HC.out (by omega)).mono ?_); rintro e_ W5 ⟨rfl, rfl⟩)
  clear h1 h2 h3
  go_wp2_with fail
  ((with_reducible refine (Kept_calls g A0 c0 l0 w _ HG.out HB.out BK.out HR.out hl).mono ?_); rintro e_ W6 ⟨rfl, hb_⟩)
  clear HB BK HC
  have HB := Aside0.mk hb_; clear hb_
  go_wp2_with fail
  ((with_reducible refine (k1 _ _ _ (Kd.C_below HR.out HB.out) hc0).mono ?_); rintro e_ W7 ⟨rfl, rfl⟩)
  go_wp2_with fail
  ((with_reducible refine (k2 _ _ _ (Kd.C_below HR.out HB.out)).mono ?_); rintro e_ W8 ⟨rfl, rfl⟩)
  go_wp2_with fail
  ((with_reducible refine (k3 _ _ _ (Kd.C_below HR.out HB.out) hc0).mono ?_); rintro e_ W9 ⟨rfl, rfl⟩)
  clear k1 k2 k3
  go_wp2
  go_ret
  exact ⟨rfl, HB.out⟩
end Go.Proofs.YtcgjaobbjeagoaaDoor
