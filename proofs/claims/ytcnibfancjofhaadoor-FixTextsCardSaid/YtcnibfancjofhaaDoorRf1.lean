/- Merged: RfB RfC RfD -/
import Derived.Test.YtcnibfancjofhaaDoorRfA
import Derived.WalkLawsBesides
import Derived.Outline
import Derived.Lib.Hide
import Derived.Laws.Externs
import Derived.Deep.RegionHeld3
/- The reference's great numbers: Of, Times. -/
namespace Go.Proofs.YtcnibfancjofhaaDoor
open Go.RowKit Go.Proofs.YtcnibfancjofhaaDoorW.PrintWords Go.Proofs.YtcnibfancjofhaaDoorW.PrintLast Go.Proofs.YtcnibfancjofhaaDoorW.PrintMore
set_option linter.unusedVariables false
set_option linter.unusedSimpArgs false
set_option maxHeartbeats 4000000 in
set_option maxRecDepth 100000 in
theorem of_pos (n : Int) (w : World) (hn : I64 n) (h0 : 0 ≤ n) :
    Calls Tryd.prog 40 #[.int .i64 n] w
      fun e w' => ∃ D, e = .returned (.agg (bigA false D)) ∧ Rep D (n.natAbs : Int) ∧ Below w.heap.size w w' := by
  have HB := Aside0.mk (Below.refl w.heap.size w)
  have h1 := hn.2; have h2 := hn.1
  obtain ⟨U, hU⟩ : ∃ U, U = (n.natAbs : Int) := ⟨_, rfl⟩
  have hU0 : 0 ≤ U := by omega
  have hU1 : U ≤ 9223372036854775808 := by omega
  have hw : n = U := by omega
  rw [← hU]
  have HW := Lib.hid hw; have HU := Lib.hid hU
  clear hw hU
  go_enter Tryd.func40, Tryd.ntmps40
  go_wp2_with (first | ((with_reducible refine gate_dst (N := 2) rfl ?_); refine box_event ?hg (N := 2) ?hd (cs := #[.bool false, .int .i64 0, .int .i64 0, .int .i64 0, .int .i64 0, .int .i64 0, .int .i64 0, .int .i64 0, .int .i64 0]) (t := 60) ?hr ?_; (case hd => rfl); (case hg => rfl); (case hr => first | (go_simp; done) | (go_simp; rfl)); intro g1 hg_ W1 hbox_ hb_; have GEg1 := Aside0.mk ((by rw [hg_]; exact (below_size HB.out)) : w.heap.size ≤ g1); clear hg_; have n_ := Aside0.mk (below_step HB.out hb_); clear HB; have HB := n_; clear n_; have BKg1 := Aside0.mk hbox_; clear hbox_ hb_; have hcg1_0 : W1.cell? ⟨g1, 0, none⟩ = some (.bool false) := (blk_cell BKg1.out 0).trans rfl; have hfg1_0 := blk_frozen BKg1.out 0; have hcg1_1 : W1.cell? ⟨g1, 1, none⟩ = some (.int .i64 0) := (blk_cell BKg1.out 1).trans rfl; have hfg1_1 := blk_frozen BKg1.out 1; have hcg1_2 : W1.cell? ⟨g1, 2, none⟩ = some (.int .i64 0) := (blk_cell BKg1.out 2).trans rfl; have hfg1_2 := blk_frozen BKg1.out 2; have hcg1_3 : W1.cell? ⟨g1, 3, none⟩ = some (.int .i64 0) := (blk_cell BKg1.out 3).trans rfl; have hfg1_3 := blk_frozen BKg1.out 3; have hcg1_4 : W1.cell? ⟨g1, 4, none⟩ = some (.int .i64 0) := (blk_cell BKg1.out 4).trans rfl; have hfg1_4 := blk_frozen BKg1.out 4; have hcg1_5 : W1.cell? ⟨g1, 5, none⟩ = some (.int .i64 0) := (blk_cell BKg1.out 5).trans rfl; have hfg1_5 := blk_frozen BKg1.out 5; have hcg1_6 : W1.cell? ⟨g1, 6, none⟩ = some (.int .i64 0) := (blk_cell BKg1.out 6).trans rfl; have hfg1_6 := blk_frozen BKg1.out 6; have hcg1_7 : W1.cell? ⟨g1, 7, none⟩ = some (.int .i64 0) := (blk_cell BKg1.out 7).trans rfl; have hfg1_7 := blk_frozen BKg1.out 7; have hcg1_8 : W1.cell? ⟨g1, 8, none⟩ = some (.int .i64 0) := (blk_cell BKg1.out 8).trans rfl; have hfg1_8 := blk_frozen BKg1.out 8) | ((with_reducible refine gate_dst (N := 3) rfl ?_); refine box_event ?hg (N := 3) ?hd (cs := #[.bool false, .int .i64 0, .int .i64 0, .int .i64 0, .int .i64 0, .int .i64 0, .int .i64 0, .int .i64 0, .int .i64 0]) (t := 60) ?hr ?_; (case hd => rfl); (case hg => rfl); (case hr => first | (go_simp; done) | (go_simp; rfl)); intro g2 hg_ W2 hbox_ hb_; have GEg2 := Aside0.mk ((by rw [hg_]; exact (below_size HB.out)) : w.heap.size ≤ g2); have NBg1_g2 : g1 ≠ g2 := (by rw [hg_]; exact Nat.ne_of_lt (blk_lt BKg1.out)); have NBg2_g1 : g2 ≠ g1 := Ne.symm NBg1_g2; clear hg_; have n_ := Aside0.mk (blk_below BKg1.out hb_); clear BKg1; have BKg1 := n_; clear n_; clear hcg1_0 hfg1_0; clear hcg1_1 hfg1_1; clear hcg1_2 hfg1_2; clear hcg1_3 hfg1_3; clear hcg1_4 hfg1_4; clear hcg1_5 hfg1_5; clear hcg1_6 hfg1_6; clear hcg1_7 hfg1_7; clear hcg1_8 hfg1_8; have n_ := Aside0.mk (below_step HB.out hb_); clear HB; have HB := n_; clear n_; have BKg2 := Aside0.mk hbox_; clear hbox_ hb_; have hcg1_0 : W2.cell? ⟨g1, 0, none⟩ = some (.bool false) := (blk_cell BKg1.out 0).trans rfl; have hfg1_0 := blk_frozen BKg1.out 0; have hcg1_1 : W2.cell? ⟨g1, 1, none⟩ = some (.int .i64 0) := (blk_cell BKg1.out 1).trans rfl; have hfg1_1 := blk_frozen BKg1.out 1; have hcg1_2 : W2.cell? ⟨g1, 2, none⟩ = some (.int .i64 0) := (blk_cell BKg1.out 2).trans rfl; have hfg1_2 := blk_frozen BKg1.out 2; have hcg1_3 : W2.cell? ⟨g1, 3, none⟩ = some (.int .i64 0) := (blk_cell BKg1.out 3).trans rfl; have hfg1_3 := blk_frozen BKg1.out 3; have hcg1_4 : W2.cell? ⟨g1, 4, none⟩ = some (.int .i64 0) := (blk_cell BKg1.out 4).trans rfl; have hfg1_4 := blk_frozen BKg1.out 4; have hcg1_5 : W2.cell? ⟨g1, 5, none⟩ = some (.int .i64 0) := (blk_cell BKg1.out 5).trans rfl; have hfg1_5 := blk_frozen BKg1.out 5; have hcg1_6 : W2.cell? ⟨g1, 6, none⟩ = some (.int .i64 0) := (blk_cell BKg1.out 6).trans rfl; have hfg1_6 := blk_frozen BKg1.out 6; have hcg1_7 : W2.cell? ⟨g1, 7, none⟩ = some (.int .i64 0) := (blk_cell BKg1.out 7).trans rfl; have hfg1_7 := blk_frozen BKg1.out 7; have hcg1_8 : W2.cell? ⟨g1, 8, none⟩ = some (.int .i64 0) := (blk_cell BKg1.out 8).trans rfl; have hfg1_8 := blk_frozen BKg1.out 8; have hcg2_0 : W2.cell? ⟨g2, 0, none⟩ = some (.bool false) := (blk_cell BKg2.out 0).trans rfl; have hfg2_0 := blk_frozen BKg2.out 0; have hcg2_1 : W2.cell? ⟨g2, 1, none⟩ = some (.int .i64 0) := (blk_cell BKg2.out 1).trans rfl; have hfg2_1 := blk_frozen BKg2.out 1; have hcg2_2 : W2.cell? ⟨g2, 2, none⟩ = some (.int .i64 0) := (blk_cell BKg2.out 2).trans rfl; have hfg2_2 := blk_frozen BKg2.out 2; have hcg2_3 : W2.cell? ⟨g2, 3, none⟩ = some (.int .i64 0) := (blk_cell BKg2.out 3).trans rfl; have hfg2_3 := blk_frozen BKg2.out 3; have hcg2_4 : W2.cell? ⟨g2, 4, none⟩ = some (.int .i64 0) := (blk_cell BKg2.out 4).trans rfl; have hfg2_4 := blk_frozen BKg2.out 4; have hcg2_5 : W2.cell? ⟨g2, 5, none⟩ = some (.int .i64 0) := (blk_cell BKg2.out 5).trans rfl; have hfg2_5 := blk_frozen BKg2.out 5; have hcg2_6 : W2.cell? ⟨g2, 6, none⟩ = some (.int .i64 0) := (blk_cell BKg2.out 6).trans rfl; have hfg2_6 := blk_frozen BKg2.out 6; have hcg2_7 : W2.cell? ⟨g2, 7, none⟩ = some (.int .i64 0) := (blk_cell BKg2.out 7).trans rfl; have hfg2_7 := blk_frozen BKg2.out 7; have hcg2_8 : W2.cell? ⟨g2, 8, none⟩ = some (.int .i64 0) := (blk_cell BKg2.out 8).trans rfl; have hfg2_8 := blk_frozen BKg2.out 8))
  try rw [HW.out]
  have cc : ∀ (D : Nat → Int), (bigA false D) = #[.bool false, .int .i64 (D 0), .int .i64 (D 1), .int .i64 (D 2), .int .i64 (D 3), .int .i64 (D 4), .int .i64 (D 5), .int .i64 (D 6), .int .i64 (D 7)] := fun _ => rfl
  have CC := Lib.hid cc; clear cc
  go_loopw [4, 5] (fun vu vi wr => ∃ (k : Nat) (X : Int) (D : Nat → Int), vu = .int .u64 X ∧ vi = .int .i64 k ∧ Aside0 (OfRel U k X D) ∧ Aside0 (wr.heap[g2]? = some (.cells (bigA false D) 60 (0, 0))) ∧ Aside0 (wr.heap[g1]? = some (.cells #[.bool false, .int .i64 0, .int .i64 0, .int .i64 0, .int .i64 0, .int .i64 0, .int .i64 0, .int .i64 0, .int .i64 0] 60 (0, 0))) ∧ Aside0 (Below w.heap.size w wr)) (fun _ vi _ => 4 - (intOf vi).toNat)
  case atStart => exact ⟨0, U, (fun _ => 0), rfl, rfl, ⟨OfRel.start hU0⟩, BKg2, BKg1, HB⟩
  case round =>
    clear BKg1 BKg2 HB hcg1_0 hfg1_0 hcg1_1 hfg1_1 hcg1_2 hfg1_2 hcg1_3 hfg1_3 hcg1_4 hfg1_4 hcg1_5 hfg1_5 hcg1_6 hfg1_6 hcg1_7 hfg1_7 hcg1_8 hfg1_8 hcg2_0 hfg2_0 hcg2_1 hfg2_1 hcg2_2 hfg2_2 hcg2_3 hfg2_3 hcg2_4 hfg2_4 hcg2_5 hfg2_5 hcg2_6 hfg2_6 hcg2_7 hfg2_7 hcg2_8 hfg2_8
    obtain ⟨k, X, D, rfl, rfl, HR, BKg2, BKg1, HB⟩ := hrel
    have hk4 := HR.out.k4; have hX0 := HR.out.pos; have hX1 := HR.out.bound (by omega)
    by_cases hlt : k < 4
    · have hc : wr.cell? ⟨g2, 1 + k, none⟩ = some (.int .i64 (D k)) := (blk_cell BKg2.out (1 + k)).trans (big_get false D (by omega))
      have hf := blk_frozen BKg2.out (1 + k)
      go_wp2
      exact ⟨⟨k + 1, X / 65536, upd D k (X % 65536), rfl, rfl, ⟨HR.out.step hlt⟩, ⟨blk_put BKg2.out (1 + k) _ (big_set false D (by omega) _)⟩, ⟨blk_far BKg1.out NBg1_g2 _⟩, ⟨below_set HB.out GEg2.out⟩⟩, by simp [intOf]; omega⟩
    · have e : k = 4 := by omega
      subst e
      have hrep := HR.out.done (by omega)
      have hc1_0 : wr.cell? ⟨g1, 0, none⟩ = some (.bool false) := (blk_cell BKg1.out 0).trans rfl; have hf1_0 := blk_frozen BKg1.out 0
      have hc1_1 : wr.cell? ⟨g1, 1, none⟩ = some (.int .i64 0) := (blk_cell BKg1.out 1).trans rfl; have hf1_1 := blk_frozen BKg1.out 1
      have hc1_2 : wr.cell? ⟨g1, 2, none⟩ = some (.int .i64 0) := (blk_cell BKg1.out 2).trans rfl; have hf1_2 := blk_frozen BKg1.out 2
      have hc1_3 : wr.cell? ⟨g1, 3, none⟩ = some (.int .i64 0) := (blk_cell BKg1.out 3).trans rfl; have hf1_3 := blk_frozen BKg1.out 3
      have hc1_4 : wr.cell? ⟨g1, 4, none⟩ = some (.int .i64 0) := (blk_cell BKg1.out 4).trans rfl; have hf1_4 := blk_frozen BKg1.out 4
      have hc1_5 : wr.cell? ⟨g1, 5, none⟩ = some (.int .i64 0) := (blk_cell BKg1.out 5).trans rfl; have hf1_5 := blk_frozen BKg1.out 5
      have hc1_6 : wr.cell? ⟨g1, 6, none⟩ = some (.int .i64 0) := (blk_cell BKg1.out 6).trans rfl; have hf1_6 := blk_frozen BKg1.out 6
      have hc1_7 : wr.cell? ⟨g1, 7, none⟩ = some (.int .i64 0) := (blk_cell BKg1.out 7).trans rfl; have hf1_7 := blk_frozen BKg1.out 7
      have hc1_8 : wr.cell? ⟨g1, 8, none⟩ = some (.int .i64 0) := (blk_cell BKg1.out 8).trans rfl; have hf1_8 := blk_frozen BKg1.out 8
      have hc2_0 : wr.cell? ⟨g2, 0, none⟩ = some (.bool false) := (blk_cell BKg2.out 0).trans rfl
      have hc2_1 : wr.cell? ⟨g2, 1, none⟩ = some (.int .i64 (D 0)) := (blk_cell BKg2.out 1).trans rfl
      have hc2_2 : wr.cell? ⟨g2, 2, none⟩ = some (.int .i64 (D 1)) := (blk_cell BKg2.out 2).trans rfl
      have hc2_3 : wr.cell? ⟨g2, 3, none⟩ = some (.int .i64 (D 2)) := (blk_cell BKg2.out 3).trans rfl
      have hc2_4 : wr.cell? ⟨g2, 4, none⟩ = some (.int .i64 (D 3)) := (blk_cell BKg2.out 4).trans rfl
      have hc2_5 : wr.cell? ⟨g2, 5, none⟩ = some (.int .i64 (D 4)) := (blk_cell BKg2.out 5).trans rfl
      have hc2_6 : wr.cell? ⟨g2, 6, none⟩ = some (.int .i64 (D 5)) := (blk_cell BKg2.out 6).trans rfl
      have hc2_7 : wr.cell? ⟨g2, 7, none⟩ = some (.int .i64 (D 6)) := (blk_cell BKg2.out 7).trans rfl
      have hc2_8 : wr.cell? ⟨g2, 8, none⟩ = some (.int .i64 (D 7)) := (blk_cell BKg2.out 8).trans rfl
      go_wp2
      refine bodyPost_ret (results_cell_row rfl _ _ g1 60 #[.bool false, .int .i64 (D 0), .int .i64 (D 1), .int .i64 (D 2), .int .i64 (D 3), .int .i64 (D 4), .int .i64 (D 5), .int .i64 (D 6), .int .i64 (D 7)] (0, 0) _ rfl (by (with_reducible repeat (first | refine blk_drewN ?_ _ | refine blk_drew ?_ | refine blk_alloc ?_ _)); refine blk_put (cs := #[.bool false, .int .i64 (D 0), .int .i64 (D 1), .int .i64 (D 2), .int .i64 (D 3), .int .i64 (D 4), .int .i64 (D 5), .int .i64 (D 6), .int .i64 0]) ?_ 8 _ rfl; (with_reducible repeat (first | refine blk_drewN ?_ _ | refine blk_drew ?_ | refine blk_alloc ?_ _)); refine blk_put (cs := #[.bool false, .int .i64 (D 0), .int .i64 (D 1), .int .i64 (D 2), .int .i64 (D 3), .int .i64 (D 4), .int .i64 (D 5), .int .i64 0, .int .i64 0]) ?_ 7 _ rfl; (with_reducible repeat (first | refine blk_drewN ?_ _ | refine blk_drew ?_ | refine blk_alloc ?_ _)); refine blk_put (cs := #[.bool false, .int .i64 (D 0), .int .i64 (D 1), .int .i64 (D 2), .int .i64 (D 3), .int .i64 (D 4), .int .i64 0, .int .i64 0, .int .i64 0]) ?_ 6 _ rfl; (with_reducible repeat (first | refine blk_drewN ?_ _ | refine blk_drew ?_ | refine blk_alloc ?_ _)); refine blk_put (cs := #[.bool false, .int .i64 (D 0), .int .i64 (D 1), .int .i64 (D 2), .int .i64 (D 3), .int .i64 0, .int .i64 0, .int .i64 0, .int .i64 0]) ?_ 5 _ rfl; (with_reducible repeat (first | refine blk_drewN ?_ _ | refine blk_drew ?_ | refine blk_alloc ?_ _)); refine blk_put (cs := #[.bool false, .int .i64 (D 0), .int .i64 (D 1), .int .i64 (D 2), .int .i64 0, .int .i64 0, .int .i64 0, .int .i64 0, .int .i64 0]) ?_ 4 _ rfl; (with_reducible repeat (first | refine blk_drewN ?_ _ | refine blk_drew ?_ | refine blk_alloc ?_ _)); refine blk_put (cs := #[.bool false, .int .i64 (D 0), .int .i64 (D 1), .int .i64 0, .int .i64 0, .int .i64 0, .int .i64 0, .int .i64 0, .int .i64 0]) ?_ 3 _ rfl; (with_reducible repeat (first | refine blk_drewN ?_ _ | refine blk_drew ?_ | refine blk_alloc ?_ _)); refine blk_put (cs := #[.bool false, .int .i64 (D 0), .int .i64 0, .int .i64 0, .int .i64 0, .int .i64 0, .int .i64 0, .int .i64 0, .int .i64 0]) ?_ 2 _ rfl; (with_reducible repeat (first | refine blk_drewN ?_ _ | refine blk_drew ?_ | refine blk_alloc ?_ _)); refine blk_put (cs := #[.bool false, .int .i64 0, .int .i64 0, .int .i64 0, .int .i64 0, .int .i64 0, .int .i64 0, .int .i64 0, .int .i64 0]) ?_ 1 _ rfl; (with_reducible repeat (first | refine blk_drewN ?_ _ | refine blk_drew ?_ | refine blk_alloc ?_ _)); refine blk_put (cs := #[.bool false, .int .i64 0, .int .i64 0, .int .i64 0, .int .i64 0, .int .i64 0, .int .i64 0, .int .i64 0, .int .i64 0]) ?_ 0 _ rfl; (with_reducible repeat (first | refine blk_drewN ?_ _ | refine blk_drew ?_ | refine blk_alloc ?_ _)); exact BKg1.out) Tryd.underlying60 rfl (by kernel_rfl)) rfl ?_
      exact ⟨D, rfl, hrep, by repeat (first | (with_reducible first | exact HB.out | apply below_alloc | apply pw_below_drewN | apply below_drew1 | refine below_set ?_ GEg1.out) | exact HB.out)⟩
set_option maxHeartbeats 4000000 in
set_option maxRecDepth 100000 in
theorem of_neg (n : Int) (w : World) (hn : I64 n) (h0 : n < 0) :
    Calls Tryd.prog 40 #[.int .i64 n] w
      fun e w' => ∃ D, e = .returned (.agg (bigA true D)) ∧ Rep D (n.natAbs : Int) ∧ Below w.heap.size w w' := by
  have HB := Aside0.mk (Below.refl w.heap.size w)
  have h1 := hn.2; have h2 := hn.1
  obtain ⟨U, hU⟩ : ∃ U, U = (n.natAbs : Int) := ⟨_, rfl⟩
  have hU0 : 0 ≤ U := by omega
  have hU1 : U ≤ 9223372036854775808 := by omega
  have hw : IntKind.u64.wrap (-(IntKind.u64.wrap n)) = U := by simp only [IntKind.wrap_u64]; omega
  rw [← hU]
  have HW := Lib.hid hw; have HU := Lib.hid hU
  clear hw hU
  go_enter Tryd.func40, Tryd.ntmps40
  go_wp2_with (first | ((with_reducible refine gate_dst (N := 2) rfl ?_); refine box_event ?hg (N := 2) ?hd (cs := #[.bool false, .int .i64 0, .int .i64 0, .int .i64 0, .int .i64 0, .int .i64 0, .int .i64 0, .int .i64 0, .int .i64 0]) (t := 60) ?hr ?_; (case hd => rfl); (case hg => rfl); (case hr => first | (go_simp; done) | (go_simp; rfl)); intro g1 hg_ W1 hbox_ hb_; have GEg1 := Aside0.mk ((by rw [hg_]; exact (below_size HB.out)) : w.heap.size ≤ g1); clear hg_; have n_ := Aside0.mk (below_step HB.out hb_); clear HB; have HB := n_; clear n_; have BKg1 := Aside0.mk hbox_; clear hbox_ hb_; have hcg1_0 : W1.cell? ⟨g1, 0, none⟩ = some (.bool false) := (blk_cell BKg1.out 0).trans rfl; have hfg1_0 := blk_frozen BKg1.out 0; have hcg1_1 : W1.cell? ⟨g1, 1, none⟩ = some (.int .i64 0) := (blk_cell BKg1.out 1).trans rfl; have hfg1_1 := blk_frozen BKg1.out 1; have hcg1_2 : W1.cell? ⟨g1, 2, none⟩ = some (.int .i64 0) := (blk_cell BKg1.out 2).trans rfl; have hfg1_2 := blk_frozen BKg1.out 2; have hcg1_3 : W1.cell? ⟨g1, 3, none⟩ = some (.int .i64 0) := (blk_cell BKg1.out 3).trans rfl; have hfg1_3 := blk_frozen BKg1.out 3; have hcg1_4 : W1.cell? ⟨g1, 4, none⟩ = some (.int .i64 0) := (blk_cell BKg1.out 4).trans rfl; have hfg1_4 := blk_frozen BKg1.out 4; have hcg1_5 : W1.cell? ⟨g1, 5, none⟩ = some (.int .i64 0) := (blk_cell BKg1.out 5).trans rfl; have hfg1_5 := blk_frozen BKg1.out 5; have hcg1_6 : W1.cell? ⟨g1, 6, none⟩ = some (.int .i64 0) := (blk_cell BKg1.out 6).trans rfl; have hfg1_6 := blk_frozen BKg1.out 6; have hcg1_7 : W1.cell? ⟨g1, 7, none⟩ = some (.int .i64 0) := (blk_cell BKg1.out 7).trans rfl; have hfg1_7 := blk_frozen BKg1.out 7; have hcg1_8 : W1.cell? ⟨g1, 8, none⟩ = some (.int .i64 0) := (blk_cell BKg1.out 8).trans rfl; have hfg1_8 := blk_frozen BKg1.out 8) | ((with_reducible refine gate_dst (N := 3) rfl ?_); refine box_event ?hg (N := 3) ?hd (cs := #[.bool false, .int .i64 0, .int .i64 0, .int .i64 0, .int .i64 0, .int .i64 0, .int .i64 0, .int .i64 0, .int .i64 0]) (t := 60) ?hr ?_; (case hd => rfl); (case hg => rfl); (case hr => first | (go_simp; done) | (go_simp; rfl)); intro g2 hg_ W2 hbox_ hb_; have GEg2 := Aside0.mk ((by rw [hg_]; exact (below_size HB.out)) : w.heap.size ≤ g2); have NBg1_g2 : g1 ≠ g2 := (by rw [hg_]; exact Nat.ne_of_lt (blk_lt BKg1.out)); have NBg2_g1 : g2 ≠ g1 := Ne.symm NBg1_g2; clear hg_; have n_ := Aside0.mk (blk_below BKg1.out hb_); clear BKg1; have BKg1 := n_; clear n_; clear hcg1_0 hfg1_0; clear hcg1_1 hfg1_1; clear hcg1_2 hfg1_2; clear hcg1_3 hfg1_3; clear hcg1_4 hfg1_4; clear hcg1_5 hfg1_5; clear hcg1_6 hfg1_6; clear hcg1_7 hfg1_7; clear hcg1_8 hfg1_8; have n_ := Aside0.mk (below_step HB.out hb_); clear HB; have HB := n_; clear n_; have BKg2 := Aside0.mk hbox_; clear hbox_ hb_; have hcg1_0 : W2.cell? ⟨g1, 0, none⟩ = some (.bool false) := (blk_cell BKg1.out 0).trans rfl; have hfg1_0 := blk_frozen BKg1.out 0; have hcg1_1 : W2.cell? ⟨g1, 1, none⟩ = some (.int .i64 0) := (blk_cell BKg1.out 1).trans rfl; have hfg1_1 := blk_frozen BKg1.out 1; have hcg1_2 : W2.cell? ⟨g1, 2, none⟩ = some (.int .i64 0) := (blk_cell BKg1.out 2).trans rfl; have hfg1_2 := blk_frozen BKg1.out 2; have hcg1_3 : W2.cell? ⟨g1, 3, none⟩ = some (.int .i64 0) := (blk_cell BKg1.out 3).trans rfl; have hfg1_3 := blk_frozen BKg1.out 3; have hcg1_4 : W2.cell? ⟨g1, 4, none⟩ = some (.int .i64 0) := (blk_cell BKg1.out 4).trans rfl; have hfg1_4 := blk_frozen BKg1.out 4; have hcg1_5 : W2.cell? ⟨g1, 5, none⟩ = some (.int .i64 0) := (blk_cell BKg1.out 5).trans rfl; have hfg1_5 := blk_frozen BKg1.out 5; have hcg1_6 : W2.cell? ⟨g1, 6, none⟩ = some (.int .i64 0) := (blk_cell BKg1.out 6).trans rfl; have hfg1_6 := blk_frozen BKg1.out 6; have hcg1_7 : W2.cell? ⟨g1, 7, none⟩ = some (.int .i64 0) := (blk_cell BKg1.out 7).trans rfl; have hfg1_7 := blk_frozen BKg1.out 7; have hcg1_8 : W2.cell? ⟨g1, 8, none⟩ = some (.int .i64 0) := (blk_cell BKg1.out 8).trans rfl; have hfg1_8 := blk_frozen BKg1.out 8; have hcg2_0 : W2.cell? ⟨g2, 0, none⟩ = some (.bool false) := (blk_cell BKg2.out 0).trans rfl; have hfg2_0 := blk_frozen BKg2.out 0; have hcg2_1 : W2.cell? ⟨g2, 1, none⟩ = some (.int .i64 0) := (blk_cell BKg2.out 1).trans rfl; have hfg2_1 := blk_frozen BKg2.out 1; have hcg2_2 : W2.cell? ⟨g2, 2, none⟩ = some (.int .i64 0) := (blk_cell BKg2.out 2).trans rfl; have hfg2_2 := blk_frozen BKg2.out 2; have hcg2_3 : W2.cell? ⟨g2, 3, none⟩ = some (.int .i64 0) := (blk_cell BKg2.out 3).trans rfl; have hfg2_3 := blk_frozen BKg2.out 3; have hcg2_4 : W2.cell? ⟨g2, 4, none⟩ = some (.int .i64 0) := (blk_cell BKg2.out 4).trans rfl; have hfg2_4 := blk_frozen BKg2.out 4; have hcg2_5 : W2.cell? ⟨g2, 5, none⟩ = some (.int .i64 0) := (blk_cell BKg2.out 5).trans rfl; have hfg2_5 := blk_frozen BKg2.out 5; have hcg2_6 : W2.cell? ⟨g2, 6, none⟩ = some (.int .i64 0) := (blk_cell BKg2.out 6).trans rfl; have hfg2_6 := blk_frozen BKg2.out 6; have hcg2_7 : W2.cell? ⟨g2, 7, none⟩ = some (.int .i64 0) := (blk_cell BKg2.out 7).trans rfl; have hfg2_7 := blk_frozen BKg2.out 7; have hcg2_8 : W2.cell? ⟨g2, 8, none⟩ = some (.int .i64 0) := (blk_cell BKg2.out 8).trans rfl; have hfg2_8 := blk_frozen BKg2.out 8))
  have n_ : Aside0 ((W2.setCell ⟨g2, 0, none⟩ (.bool true)).heap[g2]? = some (.cells #[.bool true, .int .i64 0, .int .i64 0, .int .i64 0, .int .i64 0, .int .i64 0, .int .i64 0, .int .i64 0, .int .i64 0] 60 (0, 0))) := ⟨by refine blk_put (cs := #[.bool false, .int .i64 0, .int .i64 0, .int .i64 0, .int .i64 0, .int .i64 0, .int .i64 0, .int .i64 0, .int .i64 0]) ?_ 0 _ rfl; exact BKg2.out⟩
  have m_ : Aside0 ((W2.setCell ⟨g2, 0, none⟩ (.bool true)).heap[g1]? = some (.cells #[.bool false, .int .i64 0, .int .i64 0, .int .i64 0, .int .i64 0, .int .i64 0, .int .i64 0, .int .i64 0, .int .i64 0] 60 (0, 0))) := ⟨(blk_far BKg1.out NBg1_g2 _)⟩
  clear BKg1; have BKg1 := m_; clear m_
  have b_ : Aside0 (Below w.heap.size w (W2.setCell ⟨g2, 0, none⟩ (.bool true))) := ⟨(below_set HB.out GEg2.out)⟩
  clear BKg2 HB; have BKg2 := n_; have HB := b_; clear n_ b_
  clear hcg1_0 hfg1_0
  clear hcg1_1 hfg1_1
  clear hcg1_2 hfg1_2
  clear hcg1_3 hfg1_3
  clear hcg1_4 hfg1_4
  clear hcg1_5 hfg1_5
  clear hcg1_6 hfg1_6
  clear hcg1_7 hfg1_7
  clear hcg1_8 hfg1_8
  clear hcg2_0 hfg2_0
  clear hcg2_1 hfg2_1
  clear hcg2_2 hfg2_2
  clear hcg2_3 hfg2_3
  clear hcg2_4 hfg2_4
  clear hcg2_5 hfg2_5
  clear hcg2_6 hfg2_6
  clear hcg2_7 hfg2_7
  clear hcg2_8 hfg2_8
  generalize (W2.setCell ⟨g2, 0, none⟩ (.bool true)) = W3 at *
  have hcg1_0 : W3.cell? ⟨g1, 0, none⟩ = some (.bool false) := (blk_cell BKg1.out 0).trans rfl
  have hfg1_0 := blk_frozen BKg1.out 0
  have hcg1_1 : W3.cell? ⟨g1, 1, none⟩ = some (.int .i64 0) := (blk_cell BKg1.out 1).trans rfl
  have hfg1_1 := blk_frozen BKg1.out 1
  have hcg1_2 : W3.cell? ⟨g1, 2, none⟩ = some (.int .i64 0) := (blk_cell BKg1.out 2).trans rfl
  have hfg1_2 := blk_frozen BKg1.out 2
  have hcg1_3 : W3.cell? ⟨g1, 3, none⟩ = some (.int .i64 0) := (blk_cell BKg1.out 3).trans rfl
  have hfg1_3 := blk_frozen BKg1.out 3
  have hcg1_4 : W3.cell? ⟨g1, 4, none⟩ = some (.int .i64 0) := (blk_cell BKg1.out 4).trans rfl
  have hfg1_4 := blk_frozen BKg1.out 4
  have hcg1_5 : W3.cell? ⟨g1, 5, none⟩ = some (.int .i64 0) := (blk_cell BKg1.out 5).trans rfl
  have hfg1_5 := blk_frozen BKg1.out 5
  have hcg1_6 : W3.cell? ⟨g1, 6, none⟩ = some (.int .i64 0) := (blk_cell BKg1.out 6).trans rfl
  have hfg1_6 := blk_frozen BKg1.out 6
  have hcg1_7 : W3.cell? ⟨g1, 7, none⟩ = some (.int .i64 0) := (blk_cell BKg1.out 7).trans rfl
  have hfg1_7 := blk_frozen BKg1.out 7
  have hcg1_8 : W3.cell? ⟨g1, 8, none⟩ = some (.int .i64 0) := (blk_cell BKg1.out 8).trans rfl
  have hfg1_8 := blk_frozen BKg1.out 8
  have hcg2_0 : W3.cell? ⟨g2, 0, none⟩ = some (.bool true) := (blk_cell BKg2.out 0).trans rfl
  have hfg2_0 := blk_frozen BKg2.out 0
  have hcg2_1 : W3.cell? ⟨g2, 1, none⟩ = some (.int .i64 0) := (blk_cell BKg2.out 1).trans rfl
  have hfg2_1 := blk_frozen BKg2.out 1
  have hcg2_2 : W3.cell? ⟨g2, 2, none⟩ = some (.int .i64 0) := (blk_cell BKg2.out 2).trans rfl
  have hfg2_2 := blk_frozen BKg2.out 2
  have hcg2_3 : W3.cell? ⟨g2, 3, none⟩ = some (.int .i64 0) := (blk_cell BKg2.out 3).trans rfl
  have hfg2_3 := blk_frozen BKg2.out 3
  have hcg2_4 : W3.cell? ⟨g2, 4, none⟩ = some (.int .i64 0) := (blk_cell BKg2.out 4).trans rfl
  have hfg2_4 := blk_frozen BKg2.out 4
  have hcg2_5 : W3.cell? ⟨g2, 5, none⟩ = some (.int .i64 0) := (blk_cell BKg2.out 5).trans rfl
  have hfg2_5 := blk_frozen BKg2.out 5
  have hcg2_6 : W3.cell? ⟨g2, 6, none⟩ = some (.int .i64 0) := (blk_cell BKg2.out 6).trans rfl
  have hfg2_6 := blk_frozen BKg2.out 6
  have hcg2_7 : W3.cell? ⟨g2, 7, none⟩ = some (.int .i64 0) := (blk_cell BKg2.out 7).trans rfl
  have hfg2_7 := blk_frozen BKg2.out 7
  have hcg2_8 : W3.cell? ⟨g2, 8, none⟩ = some (.int .i64 0) := (blk_cell BKg2.out 8).trans rfl
  have hfg2_8 := blk_frozen BKg2.out 8
  try rw [HW.out]
  have cc : ∀ (D : Nat → Int), (bigA true D) = #[.bool true, .int .i64 (D 0), .int .i64 (D 1), .int .i64 (D 2), .int .i64 (D 3), .int .i64 (D 4), .int .i64 (D 5), .int .i64 (D 6), .int .i64 (D 7)] := fun _ => rfl
  have CC := Lib.hid cc; clear cc
  go_loopw [4, 5] (fun vu vi wr => ∃ (k : Nat) (X : Int) (D : Nat → Int), vu = .int .u64 X ∧ vi = .int .i64 k ∧ Aside0 (OfRel U k X D) ∧ Aside0 (wr.heap[g2]? = some (.cells (bigA true D) 60 (0, 0))) ∧ Aside0 (wr.heap[g1]? = some (.cells #[.bool false, .int .i64 0, .int .i64 0, .int .i64 0, .int .i64 0, .int .i64 0, .int .i64 0, .int .i64 0, .int .i64 0] 60 (0, 0))) ∧ Aside0 (Below w.heap.size w wr)) (fun _ vi _ => 4 - (intOf vi).toNat)
  case atStart => exact ⟨0, U, (fun _ => 0), rfl, rfl, ⟨OfRel.start hU0⟩, BKg2, BKg1, HB⟩
  case round =>
    clear BKg1 BKg2 HB hcg1_0 hfg1_0 hcg1_1 hfg1_1 hcg1_2 hfg1_2 hcg1_3 hfg1_3 hcg1_4 hfg1_4 hcg1_5 hfg1_5 hcg1_6 hfg1_6 hcg1_7 hfg1_7 hcg1_8 hfg1_8 hcg2_0 hfg2_0 hcg2_1 hfg2_1 hcg2_2 hfg2_2 hcg2_3 hfg2_3 hcg2_4 hfg2_4 hcg2_5 hfg2_5 hcg2_6 hfg2_6 hcg2_7 hfg2_7 hcg2_8 hfg2_8
    obtain ⟨k, X, D, rfl, rfl, HR, BKg2, BKg1, HB⟩ := hrel
    have hk4 := HR.out.k4; have hX0 := HR.out.pos; have hX1 := HR.out.bound (by omega)
    by_cases hlt : k < 4
    · have hc : wr.cell? ⟨g2, 1 + k, none⟩ = some (.int .i64 (D k)) := (blk_cell BKg2.out (1 + k)).trans (big_get true D (by omega))
      have hf := blk_frozen BKg2.out (1 + k)
      go_wp2
      exact ⟨⟨k + 1, X / 65536, upd D k (X % 65536), rfl, rfl, ⟨HR.out.step hlt⟩, ⟨blk_put BKg2.out (1 + k) _ (big_set true D (by omega) _)⟩, ⟨blk_far BKg1.out NBg1_g2 _⟩, ⟨below_set HB.out GEg2.out⟩⟩, by simp [intOf]; omega⟩
    · have e : k = 4 := by omega
      subst e
      have hrep := HR.out.done (by omega)
      have hc1_0 : wr.cell? ⟨g1, 0, none⟩ = some (.bool false) := (blk_cell BKg1.out 0).trans rfl; have hf1_0 := blk_frozen BKg1.out 0
      have hc1_1 : wr.cell? ⟨g1, 1, none⟩ = some (.int .i64 0) := (blk_cell BKg1.out 1).trans rfl; have hf1_1 := blk_frozen BKg1.out 1
      have hc1_2 : wr.cell? ⟨g1, 2, none⟩ = some (.int .i64 0) := (blk_cell BKg1.out 2).trans rfl; have hf1_2 := blk_frozen BKg1.out 2
      have hc1_3 : wr.cell? ⟨g1, 3, none⟩ = some (.int .i64 0) := (blk_cell BKg1.out 3).trans rfl; have hf1_3 := blk_frozen BKg1.out 3
      have hc1_4 : wr.cell? ⟨g1, 4, none⟩ = some (.int .i64 0) := (blk_cell BKg1.out 4).trans rfl; have hf1_4 := blk_frozen BKg1.out 4
      have hc1_5 : wr.cell? ⟨g1, 5, none⟩ = some (.int .i64 0) := (blk_cell BKg1.out 5).trans rfl; have hf1_5 := blk_frozen BKg1.out 5
      have hc1_6 : wr.cell? ⟨g1, 6, none⟩ = some (.int .i64 0) := (blk_cell BKg1.out 6).trans rfl; have hf1_6 := blk_frozen BKg1.out 6
      have hc1_7 : wr.cell? ⟨g1, 7, none⟩ = some (.int .i64 0) := (blk_cell BKg1.out 7).trans rfl; have hf1_7 := blk_frozen BKg1.out 7
      have hc1_8 : wr.cell? ⟨g1, 8, none⟩ = some (.int .i64 0) := (blk_cell BKg1.out 8).trans rfl; have hf1_8 := blk_frozen BKg1.out 8
      have hc2_0 : wr.cell? ⟨g2, 0, none⟩ = some (.bool true) := (blk_cell BKg2.out 0).trans rfl
      have hc2_1 : wr.cell? ⟨g2, 1, none⟩ = some (.int .i64 (D 0)) := (blk_cell BKg2.out 1).trans rfl
      have hc2_2 : wr.cell? ⟨g2, 2, none⟩ = some (.int .i64 (D 1)) := (blk_cell BKg2.out 2).trans rfl
      have hc2_3 : wr.cell? ⟨g2, 3, none⟩ = some (.int .i64 (D 2)) := (blk_cell BKg2.out 3).trans rfl
      have hc2_4 : wr.cell? ⟨g2, 4, none⟩ = some (.int .i64 (D 3)) := (blk_cell BKg2.out 4).trans rfl
      have hc2_5 : wr.cell? ⟨g2, 5, none⟩ = some (.int .i64 (D 4)) := (blk_cell BKg2.out 5).trans rfl
      have hc2_6 : wr.cell? ⟨g2, 6, none⟩ = some (.int .i64 (D 5)) := (blk_cell BKg2.out 6).trans rfl
      have hc2_7 : wr.cell? ⟨g2, 7, none⟩ = some (.int .i64 (D 6)) := (blk_cell BKg2.out 7).trans rfl
      have hc2_8 : wr.cell? ⟨g2, 8, none⟩ = some (.int .i64 (D 7)) := (blk_cell BKg2.out 8).trans rfl
      go_wp2
      refine bodyPost_ret (results_cell_row rfl _ _ g1 60 #[.bool true, .int .i64 (D 0), .int .i64 (D 1), .int .i64 (D 2), .int .i64 (D 3), .int .i64 (D 4), .int .i64 (D 5), .int .i64 (D 6), .int .i64 (D 7)] (0, 0) _ rfl (by (with_reducible repeat (first | refine blk_drewN ?_ _ | refine blk_drew ?_ | refine blk_alloc ?_ _)); refine blk_put (cs := #[.bool true, .int .i64 (D 0), .int .i64 (D 1), .int .i64 (D 2), .int .i64 (D 3), .int .i64 (D 4), .int .i64 (D 5), .int .i64 (D 6), .int .i64 0]) ?_ 8 _ rfl; (with_reducible repeat (first | refine blk_drewN ?_ _ | refine blk_drew ?_ | refine blk_alloc ?_ _)); refine blk_put (cs := #[.bool true, .int .i64 (D 0), .int .i64 (D 1), .int .i64 (D 2), .int .i64 (D 3), .int .i64 (D 4), .int .i64 (D 5), .int .i64 0, .int .i64 0]) ?_ 7 _ rfl; (with_reducible repeat (first | refine blk_drewN ?_ _ | refine blk_drew ?_ | refine blk_alloc ?_ _)); refine blk_put (cs := #[.bool true, .int .i64 (D 0), .int .i64 (D 1), .int .i64 (D 2), .int .i64 (D 3), .int .i64 (D 4), .int .i64 0, .int .i64 0, .int .i64 0]) ?_ 6 _ rfl; (with_reducible repeat (first | refine blk_drewN ?_ _ | refine blk_drew ?_ | refine blk_alloc ?_ _)); refine blk_put (cs := #[.bool true, .int .i64 (D 0), .int .i64 (D 1), .int .i64 (D 2), .int .i64 (D 3), .int .i64 0, .int .i64 0, .int .i64 0, .int .i64 0]) ?_ 5 _ rfl; (with_reducible repeat (first | refine blk_drewN ?_ _ | refine blk_drew ?_ | refine blk_alloc ?_ _)); refine blk_put (cs := #[.bool true, .int .i64 (D 0), .int .i64 (D 1), .int .i64 (D 2), .int .i64 0, .int .i64 0, .int .i64 0, .int .i64 0, .int .i64 0]) ?_ 4 _ rfl; (with_reducible repeat (first | refine blk_drewN ?_ _ | refine blk_drew ?_ | refine blk_alloc ?_ _)); refine blk_put (cs := #[.bool true, .int .i64 (D 0), .int .i64 (D 1), .int .i64 0, .int .i64 0, .int .i64 0, .int .i64 0, .int .i64 0, .int .i64 0]) ?_ 3 _ rfl; (with_reducible repeat (first | refine blk_drewN ?_ _ | refine blk_drew ?_ | refine blk_alloc ?_ _)); refine blk_put (cs := #[.bool true, .int .i64 (D 0), .int .i64 0, .int .i64 0, .int .i64 0, .int .i64 0, .int .i64 0, .int .i64 0, .int .i64 0]) ?_ 2 _ rfl; (with_reducible repeat (first | refine blk_drewN ?_ _ | refine blk_drew ?_ | refine blk_alloc ?_ _)); refine blk_put (cs := #[.bool true, .int .i64 0, .int .i64 0, .int .i64 0, .int .i64 0, .int .i64 0, .int .i64 0, .int .i64 0, .int .i64 0]) ?_ 1 _ rfl; (with_reducible repeat (first | refine blk_drewN ?_ _ | refine blk_drew ?_ | refine blk_alloc ?_ _)); refine blk_put (cs := #[.bool false, .int .i64 0, .int .i64 0, .int .i64 0, .int .i64 0, .int .i64 0, .int .i64 0, .int .i64 0, .int .i64 0]) ?_ 0 _ rfl; (with_reducible repeat (first | refine blk_drewN ?_ _ | refine blk_drew ?_ | refine blk_alloc ?_ _)); exact BKg1.out) Tryd.underlying60 rfl (by kernel_rfl)) rfl ?_
      exact ⟨D, rfl, hrep, by repeat (first | (with_reducible first | exact HB.out | apply below_alloc | apply pw_below_drewN | apply below_drew1 | refine below_set ?_ GEg1.out) | exact HB.out)⟩
set_option maxHeartbeats 8000000 in
set_option maxRecDepth 100000 in
theorem times_calls (ma mb : Bool) (a b : Nat → Int) (A B : Int) (w : World) (ha : Rep a A) (hb : Rep b B) (hA : A < 18446744073709551616) (hB : B < 18446744073709551616) :
    Calls Tryd.prog 50 #[.agg (bigA ma a), .agg (bigA mb b)] w
      fun e w' => ∃ D, e = .returned (.agg (bigA (!(ma == mb)) D)) ∧ Rep D (A * B) ∧ Below w.heap.size w w' := by
  have HB := Aside0.mk (Below.refl w.heap.size w)
  go_enter Tryd.func50, Tryd.ntmps50
  go_wp2_with (first | ((with_reducible refine gate_dst (N := 2) rfl ?_); refine box_event ?hg (N := 2) ?hd (cs := (bigA ma a)) (t := 60) ?hr ?_; (case hd => rfl); (case hg => rfl); (case hr => first | (go_simp; done) | (go_simp; rfl)); intro g1 hg_ W1 hbox_ hb_; have GEg1 := Aside0.mk ((by rw [hg_]; exact (below_size HB.out)) : w.heap.size ≤ g1); clear hg_; have n_ := Aside0.mk (below_step HB.out hb_); clear HB; have HB := n_; clear n_; have BKg1 := Aside0.mk hbox_; clear hbox_ hb_; have hcg1_0 : W1.cell? ⟨g1, 0, none⟩ = some (.bool ma) := (blk_cell BKg1.out 0).trans rfl; have hfg1_0 := blk_frozen BKg1.out 0; have hcg1_1 : W1.cell? ⟨g1, 1, none⟩ = some (.int .i64 (a 0)) := (blk_cell BKg1.out 1).trans rfl; have hfg1_1 := blk_frozen BKg1.out 1; have hcg1_2 : W1.cell? ⟨g1, 2, none⟩ = some (.int .i64 (a 1)) := (blk_cell BKg1.out 2).trans rfl; have hfg1_2 := blk_frozen BKg1.out 2; have hcg1_3 : W1.cell? ⟨g1, 3, none⟩ = some (.int .i64 (a 2)) := (blk_cell BKg1.out 3).trans rfl; have hfg1_3 := blk_frozen BKg1.out 3; have hcg1_4 : W1.cell? ⟨g1, 4, none⟩ = some (.int .i64 (a 3)) := (blk_cell BKg1.out 4).trans rfl; have hfg1_4 := blk_frozen BKg1.out 4; have hcg1_5 : W1.cell? ⟨g1, 5, none⟩ = some (.int .i64 (a 4)) := (blk_cell BKg1.out 5).trans rfl; have hfg1_5 := blk_frozen BKg1.out 5; have hcg1_6 : W1.cell? ⟨g1, 6, none⟩ = some (.int .i64 (a 5)) := (blk_cell BKg1.out 6).trans rfl; have hfg1_6 := blk_frozen BKg1.out 6; have hcg1_7 : W1.cell? ⟨g1, 7, none⟩ = some (.int .i64 (a 6)) := (blk_cell BKg1.out 7).trans rfl; have hfg1_7 := blk_frozen BKg1.out 7; have hcg1_8 : W1.cell? ⟨g1, 8, none⟩ = some (.int .i64 (a 7)) := (blk_cell BKg1.out 8).trans rfl; have hfg1_8 := blk_frozen BKg1.out 8) | ((with_reducible refine gate_dst (N := 3) rfl ?_); refine box_event ?hg (N := 3) ?hd (cs := (bigA mb b)) (t := 60) ?hr ?_; (case hd => rfl); (case hg => rfl); (case hr => first | (go_simp; done) | (go_simp; rfl)); intro g2 hg_ W2 hbox_ hb_; have GEg2 := Aside0.mk ((by rw [hg_]; exact (below_size HB.out)) : w.heap.size ≤ g2); have NBg1_g2 : g1 ≠ g2 := (by rw [hg_]; exact Nat.ne_of_lt (blk_lt BKg1.out)); have NBg2_g1 : g2 ≠ g1 := Ne.symm NBg1_g2; clear hg_; have n_ := Aside0.mk (blk_below BKg1.out hb_); clear BKg1; have BKg1 := n_; clear n_; clear hcg1_0 hfg1_0; clear hcg1_1 hfg1_1; clear hcg1_2 hfg1_2; clear hcg1_3 hfg1_3; clear hcg1_4 hfg1_4; clear hcg1_5 hfg1_5; clear hcg1_6 hfg1_6; clear hcg1_7 hfg1_7; clear hcg1_8 hfg1_8; have n_ := Aside0.mk (below_step HB.out hb_); clear HB; have HB := n_; clear n_; have BKg2 := Aside0.mk hbox_; clear hbox_ hb_; have hcg1_0 : W2.cell? ⟨g1, 0, none⟩ = some (.bool ma) := (blk_cell BKg1.out 0).trans rfl; have hfg1_0 := blk_frozen BKg1.out 0; have hcg1_1 : W2.cell? ⟨g1, 1, none⟩ = some (.int .i64 (a 0)) := (blk_cell BKg1.out 1).trans rfl; have hfg1_1 := blk_frozen BKg1.out 1; have hcg1_2 : W2.cell? ⟨g1, 2, none⟩ = some (.int .i64 (a 1)) := (blk_cell BKg1.out 2).trans rfl; have hfg1_2 := blk_frozen BKg1.out 2; have hcg1_3 : W2.cell? ⟨g1, 3, none⟩ = some (.int .i64 (a 2)) := (blk_cell BKg1.out 3).trans rfl; have hfg1_3 := blk_frozen BKg1.out 3; have hcg1_4 : W2.cell? ⟨g1, 4, none⟩ = some (.int .i64 (a 3)) := (blk_cell BKg1.out 4).trans rfl; have hfg1_4 := blk_frozen BKg1.out 4; have hcg1_5 : W2.cell? ⟨g1, 5, none⟩ = some (.int .i64 (a 4)) := (blk_cell BKg1.out 5).trans rfl; have hfg1_5 := blk_frozen BKg1.out 5; have hcg1_6 : W2.cell? ⟨g1, 6, none⟩ = some (.int .i64 (a 5)) := (blk_cell BKg1.out 6).trans rfl; have hfg1_6 := blk_frozen BKg1.out 6; have hcg1_7 : W2.cell? ⟨g1, 7, none⟩ = some (.int .i64 (a 6)) := (blk_cell BKg1.out 7).trans rfl; have hfg1_7 := blk_frozen BKg1.out 7; have hcg1_8 : W2.cell? ⟨g1, 8, none⟩ = some (.int .i64 (a 7)) := (blk_cell BKg1.out 8).trans rfl; have hfg1_8 := blk_frozen BKg1.out 8; have hcg2_0 : W2.cell? ⟨g2, 0, none⟩ = some (.bool mb) := (blk_cell BKg2.out 0).trans rfl; have hfg2_0 := blk_frozen BKg2.out 0; have hcg2_1 : W2.cell? ⟨g2, 1, none⟩ = some (.int .i64 (b 0)) := (blk_cell BKg2.out 1).trans rfl; have hfg2_1 := blk_frozen BKg2.out 1; have hcg2_2 : W2.cell? ⟨g2, 2, none⟩ = some (.int .i64 (b 1)) := (blk_cell BKg2.out 2).trans rfl; have hfg2_2 := blk_frozen BKg2.out 2; have hcg2_3 : W2.cell? ⟨g2, 3, none⟩ = some (.int .i64 (b 2)) := (blk_cell BKg2.out 3).trans rfl; have hfg2_3 := blk_frozen BKg2.out 3; have hcg2_4 : W2.cell? ⟨g2, 4, none⟩ = some (.int .i64 (b 3)) := (blk_cell BKg2.out 4).trans rfl; have hfg2_4 := blk_frozen BKg2.out 4; have hcg2_5 : W2.cell? ⟨g2, 5, none⟩ = some (.int .i64 (b 4)) := (blk_cell BKg2.out 5).trans rfl; have hfg2_5 := blk_frozen BKg2.out 5; have hcg2_6 : W2.cell? ⟨g2, 6, none⟩ = some (.int .i64 (b 5)) := (blk_cell BKg2.out 6).trans rfl; have hfg2_6 := blk_frozen BKg2.out 6; have hcg2_7 : W2.cell? ⟨g2, 7, none⟩ = some (.int .i64 (b 6)) := (blk_cell BKg2.out 7).trans rfl; have hfg2_7 := blk_frozen BKg2.out 7; have hcg2_8 : W2.cell? ⟨g2, 8, none⟩ = some (.int .i64 (b 7)) := (blk_cell BKg2.out 8).trans rfl; have hfg2_8 := blk_frozen BKg2.out 8) | ((with_reducible refine gate_dst (N := 4) rfl ?_); refine box_event ?hg (N := 4) ?hd (cs := #[.bool false, .int .i64 0, .int .i64 0, .int .i64 0, .int .i64 0, .int .i64 0, .int .i64 0, .int .i64 0, .int .i64 0]) (t := 60) ?hr ?_; (case hd => rfl); (case hg => rfl); (case hr => first | (go_simp; done) | (go_simp; rfl)); intro g3 hg_ W3 hbox_ hb_; have GEg3 := Aside0.mk ((by rw [hg_]; exact (below_size HB.out)) : w.heap.size ≤ g3); have NBg1_g3 : g1 ≠ g3 := (by rw [hg_]; exact Nat.ne_of_lt (blk_lt BKg1.out)); have NBg3_g1 : g3 ≠ g1 := Ne.symm NBg1_g3; have NBg2_g3 : g2 ≠ g3 := (by rw [hg_]; exact Nat.ne_of_lt (blk_lt BKg2.out)); have NBg3_g2 : g3 ≠ g2 := Ne.symm NBg2_g3; clear hg_; have n_ := Aside0.mk (blk_below BKg1.out hb_); clear BKg1; have BKg1 := n_; clear n_; clear hcg1_0 hfg1_0; clear hcg1_1 hfg1_1; clear hcg1_2 hfg1_2; clear hcg1_3 hfg1_3; clear hcg1_4 hfg1_4; clear hcg1_5 hfg1_5; clear hcg1_6 hfg1_6; clear hcg1_7 hfg1_7; clear hcg1_8 hfg1_8; have n_ := Aside0.mk (blk_below BKg2.out hb_); clear BKg2; have BKg2 := n_; clear n_; clear hcg2_0 hfg2_0; clear hcg2_1 hfg2_1; clear hcg2_2 hfg2_2; clear hcg2_3 hfg2_3; clear hcg2_4 hfg2_4; clear hcg2_5 hfg2_5; clear hcg2_6 hfg2_6; clear hcg2_7 hfg2_7; clear hcg2_8 hfg2_8; have n_ := Aside0.mk (below_step HB.out hb_); clear HB; have HB := n_; clear n_; have BKg3 := Aside0.mk hbox_; clear hbox_ hb_; have hcg1_0 : W3.cell? ⟨g1, 0, none⟩ = some (.bool ma) := (blk_cell BKg1.out 0).trans rfl; have hfg1_0 := blk_frozen BKg1.out 0; have hcg1_1 : W3.cell? ⟨g1, 1, none⟩ = some (.int .i64 (a 0)) := (blk_cell BKg1.out 1).trans rfl; have hfg1_1 := blk_frozen BKg1.out 1; have hcg1_2 : W3.cell? ⟨g1, 2, none⟩ = some (.int .i64 (a 1)) := (blk_cell BKg1.out 2).trans rfl; have hfg1_2 := blk_frozen BKg1.out 2; have hcg1_3 : W3.cell? ⟨g1, 3, none⟩ = some (.int .i64 (a 2)) := (blk_cell BKg1.out 3).trans rfl; have hfg1_3 := blk_frozen BKg1.out 3; have hcg1_4 : W3.cell? ⟨g1, 4, none⟩ = some (.int .i64 (a 3)) := (blk_cell BKg1.out 4).trans rfl; have hfg1_4 := blk_frozen BKg1.out 4; have hcg1_5 : W3.cell? ⟨g1, 5, none⟩ = some (.int .i64 (a 4)) := (blk_cell BKg1.out 5).trans rfl; have hfg1_5 := blk_frozen BKg1.out 5; have hcg1_6 : W3.cell? ⟨g1, 6, none⟩ = some (.int .i64 (a 5)) := (blk_cell BKg1.out 6).trans rfl; have hfg1_6 := blk_frozen BKg1.out 6; have hcg1_7 : W3.cell? ⟨g1, 7, none⟩ = some (.int .i64 (a 6)) := (blk_cell BKg1.out 7).trans rfl; have hfg1_7 := blk_frozen BKg1.out 7; have hcg1_8 : W3.cell? ⟨g1, 8, none⟩ = some (.int .i64 (a 7)) := (blk_cell BKg1.out 8).trans rfl; have hfg1_8 := blk_frozen BKg1.out 8; have hcg2_0 : W3.cell? ⟨g2, 0, none⟩ = some (.bool mb) := (blk_cell BKg2.out 0).trans rfl; have hfg2_0 := blk_frozen BKg2.out 0; have hcg2_1 : W3.cell? ⟨g2, 1, none⟩ = some (.int .i64 (b 0)) := (blk_cell BKg2.out 1).trans rfl; have hfg2_1 := blk_frozen BKg2.out 1; have hcg2_2 : W3.cell? ⟨g2, 2, none⟩ = some (.int .i64 (b 1)) := (blk_cell BKg2.out 2).trans rfl; have hfg2_2 := blk_frozen BKg2.out 2; have hcg2_3 : W3.cell? ⟨g2, 3, none⟩ = some (.int .i64 (b 2)) := (blk_cell BKg2.out 3).trans rfl; have hfg2_3 := blk_frozen BKg2.out 3; have hcg2_4 : W3.cell? ⟨g2, 4, none⟩ = some (.int .i64 (b 3)) := (blk_cell BKg2.out 4).trans rfl; have hfg2_4 := blk_frozen BKg2.out 4; have hcg2_5 : W3.cell? ⟨g2, 5, none⟩ = some (.int .i64 (b 4)) := (blk_cell BKg2.out 5).trans rfl; have hfg2_5 := blk_frozen BKg2.out 5; have hcg2_6 : W3.cell? ⟨g2, 6, none⟩ = some (.int .i64 (b 5)) := (blk_cell BKg2.out 6).trans rfl; have hfg2_6 := blk_frozen BKg2.out 6; have hcg2_7 : W3.cell? ⟨g2, 7, none⟩ = some (.int .i64 (b 6)) := (blk_cell BKg2.out 7).trans rfl; have hfg2_7 := blk_frozen BKg2.out 7; have hcg2_8 : W3.cell? ⟨g2, 8, none⟩ = some (.int .i64 (b 7)) := (blk_cell BKg2.out 8).trans rfl; have hfg2_8 := blk_frozen BKg2.out 8; have hcg3_0 : W3.cell? ⟨g3, 0, none⟩ = some (.bool false) := (blk_cell BKg3.out 0).trans rfl; have hfg3_0 := blk_frozen BKg3.out 0; have hcg3_1 : W3.cell? ⟨g3, 1, none⟩ = some (.int .i64 0) := (blk_cell BKg3.out 1).trans rfl; have hfg3_1 := blk_frozen BKg3.out 1; have hcg3_2 : W3.cell? ⟨g3, 2, none⟩ = some (.int .i64 0) := (blk_cell BKg3.out 2).trans rfl; have hfg3_2 := blk_frozen BKg3.out 2; have hcg3_3 : W3.cell? ⟨g3, 3, none⟩ = some (.int .i64 0) := (blk_cell BKg3.out 3).trans rfl; have hfg3_3 := blk_frozen BKg3.out 3; have hcg3_4 : W3.cell? ⟨g3, 4, none⟩ = some (.int .i64 0) := (blk_cell BKg3.out 4).trans rfl; have hfg3_4 := blk_frozen BKg3.out 4; have hcg3_5 : W3.cell? ⟨g3, 5, none⟩ = some (.int .i64 0) := (blk_cell BKg3.out 5).trans rfl; have hfg3_5 := blk_frozen BKg3.out 5; have hcg3_6 : W3.cell? ⟨g3, 6, none⟩ = some (.int .i64 0) := (blk_cell BKg3.out 6).trans rfl; have hfg3_6 := blk_frozen BKg3.out 6; have hcg3_7 : W3.cell? ⟨g3, 7, none⟩ = some (.int .i64 0) := (blk_cell BKg3.out 7).trans rfl; have hfg3_7 := blk_frozen BKg3.out 7; have hcg3_8 : W3.cell? ⟨g3, 8, none⟩ = some (.int .i64 0) := (blk_cell BKg3.out 8).trans rfl; have hfg3_8 := blk_frozen BKg3.out 8) | ((with_reducible refine gate_dst (N := 5) rfl ?_); refine box_event ?hg (N := 5) ?hd (cs := #[.bool false, .int .i64 0, .int .i64 0, .int .i64 0, .int .i64 0, .int .i64 0, .int .i64 0, .int .i64 0, .int .i64 0]) (t := 60) ?hr ?_; (case hd => rfl); (case hg => rfl); (case hr => first | (go_simp; done) | (go_simp; rfl)); intro g5 hg_ W4 hbox_ hb_; have GEg5 := Aside0.mk ((by rw [hg_]; exact (below_size HB.out)) : w.heap.size ≤ g5); have NBg1_g5 : g1 ≠ g5 := (by rw [hg_]; exact Nat.ne_of_lt (blk_lt BKg1.out)); have NBg5_g1 : g5 ≠ g1 := Ne.symm NBg1_g5; have NBg2_g5 : g2 ≠ g5 := (by rw [hg_]; exact Nat.ne_of_lt (blk_lt BKg2.out)); have NBg5_g2 : g5 ≠ g2 := Ne.symm NBg2_g5; have NBg3_g5 : g3 ≠ g5 := (by rw [hg_]; exact Nat.ne_of_lt (blk_lt BKg3.out)); have NBg5_g3 : g5 ≠ g3 := Ne.symm NBg3_g5; clear hg_; have n_ := Aside0.mk (blk_below BKg1.out hb_); clear BKg1; have BKg1 := n_; clear n_; clear hcg1_0 hfg1_0; clear hcg1_1 hfg1_1; clear hcg1_2 hfg1_2; clear hcg1_3 hfg1_3; clear hcg1_4 hfg1_4; clear hcg1_5 hfg1_5; clear hcg1_6 hfg1_6; clear hcg1_7 hfg1_7; clear hcg1_8 hfg1_8; have n_ := Aside0.mk (blk_below BKg2.out hb_); clear BKg2; have BKg2 := n_; clear n_; clear hcg2_0 hfg2_0; clear hcg2_1 hfg2_1; clear hcg2_2 hfg2_2; clear hcg2_3 hfg2_3; clear hcg2_4 hfg2_4; clear hcg2_5 hfg2_5; clear hcg2_6 hfg2_6; clear hcg2_7 hfg2_7; clear hcg2_8 hfg2_8; have n_ := Aside0.mk (blk_below BKg3.out hb_); clear BKg3; have BKg3 := n_; clear n_; clear hcg3_0 hfg3_0; clear hcg3_1 hfg3_1; clear hcg3_2 hfg3_2; clear hcg3_3 hfg3_3; clear hcg3_4 hfg3_4; clear hcg3_5 hfg3_5; clear hcg3_6 hfg3_6; clear hcg3_7 hfg3_7; clear hcg3_8 hfg3_8; have n_ := Aside0.mk (below_step HB.out hb_); clear HB; have HB := n_; clear n_; have BKg5 := Aside0.mk hbox_; clear hbox_ hb_; have hcg1_0 : W4.cell? ⟨g1, 0, none⟩ = some (.bool ma) := (blk_cell BKg1.out 0).trans rfl; have hfg1_0 := blk_frozen BKg1.out 0; have hcg1_1 : W4.cell? ⟨g1, 1, none⟩ = some (.int .i64 (a 0)) := (blk_cell BKg1.out 1).trans rfl; have hfg1_1 := blk_frozen BKg1.out 1; have hcg1_2 : W4.cell? ⟨g1, 2, none⟩ = some (.int .i64 (a 1)) := (blk_cell BKg1.out 2).trans rfl; have hfg1_2 := blk_frozen BKg1.out 2; have hcg1_3 : W4.cell? ⟨g1, 3, none⟩ = some (.int .i64 (a 2)) := (blk_cell BKg1.out 3).trans rfl; have hfg1_3 := blk_frozen BKg1.out 3; have hcg1_4 : W4.cell? ⟨g1, 4, none⟩ = some (.int .i64 (a 3)) := (blk_cell BKg1.out 4).trans rfl; have hfg1_4 := blk_frozen BKg1.out 4; have hcg1_5 : W4.cell? ⟨g1, 5, none⟩ = some (.int .i64 (a 4)) := (blk_cell BKg1.out 5).trans rfl; have hfg1_5 := blk_frozen BKg1.out 5; have hcg1_6 : W4.cell? ⟨g1, 6, none⟩ = some (.int .i64 (a 5)) := (blk_cell BKg1.out 6).trans rfl; have hfg1_6 := blk_frozen BKg1.out 6; have hcg1_7 : W4.cell? ⟨g1, 7, none⟩ = some (.int .i64 (a 6)) := (blk_cell BKg1.out 7).trans rfl; have hfg1_7 := blk_frozen BKg1.out 7; have hcg1_8 : W4.cell? ⟨g1, 8, none⟩ = some (.int .i64 (a 7)) := (blk_cell BKg1.out 8).trans rfl; have hfg1_8 := blk_frozen BKg1.out 8; have hcg2_0 : W4.cell? ⟨g2, 0, none⟩ = some (.bool mb) := (blk_cell BKg2.out 0).trans rfl; have hfg2_0 := blk_frozen BKg2.out 0; have hcg2_1 : W4.cell? ⟨g2, 1, none⟩ = some (.int .i64 (b 0)) := (blk_cell BKg2.out 1).trans rfl; have hfg2_1 := blk_frozen BKg2.out 1; have hcg2_2 : W4.cell? ⟨g2, 2, none⟩ = some (.int .i64 (b 1)) := (blk_cell BKg2.out 2).trans rfl; have hfg2_2 := blk_frozen BKg2.out 2; have hcg2_3 : W4.cell? ⟨g2, 3, none⟩ = some (.int .i64 (b 2)) := (blk_cell BKg2.out 3).trans rfl; have hfg2_3 := blk_frozen BKg2.out 3; have hcg2_4 : W4.cell? ⟨g2, 4, none⟩ = some (.int .i64 (b 3)) := (blk_cell BKg2.out 4).trans rfl; have hfg2_4 := blk_frozen BKg2.out 4; have hcg2_5 : W4.cell? ⟨g2, 5, none⟩ = some (.int .i64 (b 4)) := (blk_cell BKg2.out 5).trans rfl; have hfg2_5 := blk_frozen BKg2.out 5; have hcg2_6 : W4.cell? ⟨g2, 6, none⟩ = some (.int .i64 (b 5)) := (blk_cell BKg2.out 6).trans rfl; have hfg2_6 := blk_frozen BKg2.out 6; have hcg2_7 : W4.cell? ⟨g2, 7, none⟩ = some (.int .i64 (b 6)) := (blk_cell BKg2.out 7).trans rfl; have hfg2_7 := blk_frozen BKg2.out 7; have hcg2_8 : W4.cell? ⟨g2, 8, none⟩ = some (.int .i64 (b 7)) := (blk_cell BKg2.out 8).trans rfl; have hfg2_8 := blk_frozen BKg2.out 8; have hcg3_0 : W4.cell? ⟨g3, 0, none⟩ = some (.bool false) := (blk_cell BKg3.out 0).trans rfl; have hfg3_0 := blk_frozen BKg3.out 0; have hcg3_1 : W4.cell? ⟨g3, 1, none⟩ = some (.int .i64 0) := (blk_cell BKg3.out 1).trans rfl; have hfg3_1 := blk_frozen BKg3.out 1; have hcg3_2 : W4.cell? ⟨g3, 2, none⟩ = some (.int .i64 0) := (blk_cell BKg3.out 2).trans rfl; have hfg3_2 := blk_frozen BKg3.out 2; have hcg3_3 : W4.cell? ⟨g3, 3, none⟩ = some (.int .i64 0) := (blk_cell BKg3.out 3).trans rfl; have hfg3_3 := blk_frozen BKg3.out 3; have hcg3_4 : W4.cell? ⟨g3, 4, none⟩ = some (.int .i64 0) := (blk_cell BKg3.out 4).trans rfl; have hfg3_4 := blk_frozen BKg3.out 4; have hcg3_5 : W4.cell? ⟨g3, 5, none⟩ = some (.int .i64 0) := (blk_cell BKg3.out 5).trans rfl; have hfg3_5 := blk_frozen BKg3.out 5; have hcg3_6 : W4.cell? ⟨g3, 6, none⟩ = some (.int .i64 0) := (blk_cell BKg3.out 6).trans rfl; have hfg3_6 := blk_frozen BKg3.out 6; have hcg3_7 : W4.cell? ⟨g3, 7, none⟩ = some (.int .i64 0) := (blk_cell BKg3.out 7).trans rfl; have hfg3_7 := blk_frozen BKg3.out 7; have hcg3_8 : W4.cell? ⟨g3, 8, none⟩ = some (.int .i64 0) := (blk_cell BKg3.out 8).trans rfl; have hfg3_8 := blk_frozen BKg3.out 8; have hcg5_0 : W4.cell? ⟨g5, 0, none⟩ = some (.bool false) := (blk_cell BKg5.out 0).trans rfl; have hfg5_0 := blk_frozen BKg5.out 0; have hcg5_1 : W4.cell? ⟨g5, 1, none⟩ = some (.int .i64 0) := (blk_cell BKg5.out 1).trans rfl; have hfg5_1 := blk_frozen BKg5.out 1; have hcg5_2 : W4.cell? ⟨g5, 2, none⟩ = some (.int .i64 0) := (blk_cell BKg5.out 2).trans rfl; have hfg5_2 := blk_frozen BKg5.out 2; have hcg5_3 : W4.cell? ⟨g5, 3, none⟩ = some (.int .i64 0) := (blk_cell BKg5.out 3).trans rfl; have hfg5_3 := blk_frozen BKg5.out 3; have hcg5_4 : W4.cell? ⟨g5, 4, none⟩ = some (.int .i64 0) := (blk_cell BKg5.out 4).trans rfl; have hfg5_4 := blk_frozen BKg5.out 4; have hcg5_5 : W4.cell? ⟨g5, 5, none⟩ = some (.int .i64 0) := (blk_cell BKg5.out 5).trans rfl; have hfg5_5 := blk_frozen BKg5.out 5; have hcg5_6 : W4.cell? ⟨g5, 6, none⟩ = some (.int .i64 0) := (blk_cell BKg5.out 6).trans rfl; have hfg5_6 := blk_frozen BKg5.out 6; have hcg5_7 : W4.cell? ⟨g5, 7, none⟩ = some (.int .i64 0) := (blk_cell BKg5.out 7).trans rfl; have hfg5_7 := blk_frozen BKg5.out 7; have hcg5_8 : W4.cell? ⟨g5, 8, none⟩ = some (.int .i64 0) := (blk_cell BKg5.out 8).trans rfl; have hfg5_8 := blk_frozen BKg5.out 8))
  have n_ : Aside0 ((((((((((W4.setCell ⟨g5, 0, none⟩ (.bool (!(ma == mb)))).setCell ⟨g5, 1, none⟩ (.int .i64 0)).setCell ⟨g5, 2, none⟩ (.int .i64 0)).setCell ⟨g5, 3, none⟩ (.int .i64 0)).setCell ⟨g5, 4, none⟩ (.int .i64 0)).setCell ⟨g5, 5, none⟩ (.int .i64 0)).setCell ⟨g5, 6, none⟩ (.int .i64 0)).setCell ⟨g5, 7, none⟩ (.int .i64 0)).setCell ⟨g5, 8, none⟩ (.int .i64 0)).heap[g5]? = some (.cells #[.bool (!(ma == mb)), .int .i64 0, .int .i64 0, .int .i64 0, .int .i64 0, .int .i64 0, .int .i64 0, .int .i64 0, .int .i64 0] 60 (0, 0))) := ⟨by refine blk_put (cs := #[.bool (!(ma == mb)), .int .i64 0, .int .i64 0, .int .i64 0, .int .i64 0, .int .i64 0, .int .i64 0, .int .i64 0, .int .i64 0]) ?_ 8 _ rfl; refine blk_put (cs := #[.bool (!(ma == mb)), .int .i64 0, .int .i64 0, .int .i64 0, .int .i64 0, .int .i64 0, .int .i64 0, .int .i64 0, .int .i64 0]) ?_ 7 _ rfl; refine blk_put (cs := #[.bool (!(ma == mb)), .int .i64 0, .int .i64 0, .int .i64 0, .int .i64 0, .int .i64 0, .int .i64 0, .int .i64 0, .int .i64 0]) ?_ 6 _ rfl; refine blk_put (cs := #[.bool (!(ma == mb)), .int .i64 0, .int .i64 0, .int .i64 0, .int .i64 0, .int .i64 0, .int .i64 0, .int .i64 0, .int .i64 0]) ?_ 5 _ rfl; refine blk_put (cs := #[.bool (!(ma == mb)), .int .i64 0, .int .i64 0, .int .i64 0, .int .i64 0, .int .i64 0, .int .i64 0, .int .i64 0, .int .i64 0]) ?_ 4 _ rfl; refine blk_put (cs := #[.bool (!(ma == mb)), .int .i64 0, .int .i64 0, .int .i64 0, .int .i64 0, .int .i64 0, .int .i64 0, .int .i64 0, .int .i64 0]) ?_ 3 _ rfl; refine blk_put (cs := #[.bool (!(ma == mb)), .int .i64 0, .int .i64 0, .int .i64 0, .int .i64 0, .int .i64 0, .int .i64 0, .int .i64 0, .int .i64 0]) ?_ 2 _ rfl; refine blk_put (cs := #[.bool (!(ma == mb)), .int .i64 0, .int .i64 0, .int .i64 0, .int .i64 0, .int .i64 0, .int .i64 0, .int .i64 0, .int .i64 0]) ?_ 1 _ rfl; refine blk_put (cs := #[.bool false, .int .i64 0, .int .i64 0, .int .i64 0, .int .i64 0, .int .i64 0, .int .i64 0, .int .i64 0, .int .i64 0]) ?_ 0 _ rfl; exact BKg5.out⟩
  have m_ : Aside0 ((((((((((W4.setCell ⟨g5, 0, none⟩ (.bool (!(ma == mb)))).setCell ⟨g5, 1, none⟩ (.int .i64 0)).setCell ⟨g5, 2, none⟩ (.int .i64 0)).setCell ⟨g5, 3, none⟩ (.int .i64 0)).setCell ⟨g5, 4, none⟩ (.int .i64 0)).setCell ⟨g5, 5, none⟩ (.int .i64 0)).setCell ⟨g5, 6, none⟩ (.int .i64 0)).setCell ⟨g5, 7, none⟩ (.int .i64 0)).setCell ⟨g5, 8, none⟩ (.int .i64 0)).heap[g1]? = some (.cells (bigA ma a) 60 (0, 0))) := ⟨(blk_far (blk_far (blk_far (blk_far (blk_far (blk_far (blk_far (blk_far (blk_far BKg1.out NBg1_g5 _) NBg1_g5 _) NBg1_g5 _) NBg1_g5 _) NBg1_g5 _) NBg1_g5 _) NBg1_g5 _) NBg1_g5 _) NBg1_g5 _)⟩
  clear BKg1; have BKg1 := m_; clear m_
  have m_ : Aside0 ((((((((((W4.setCell ⟨g5, 0, none⟩ (.bool (!(ma == mb)))).setCell ⟨g5, 1, none⟩ (.int .i64 0)).setCell ⟨g5, 2, none⟩ (.int .i64 0)).setCell ⟨g5, 3, none⟩ (.int .i64 0)).setCell ⟨g5, 4, none⟩ (.int .i64 0)).setCell ⟨g5, 5, none⟩ (.int .i64 0)).setCell ⟨g5, 6, none⟩ (.int .i64 0)).setCell ⟨g5, 7, none⟩ (.int .i64 0)).setCell ⟨g5, 8, none⟩ (.int .i64 0)).heap[g2]? = some (.cells (bigA mb b) 60 (0, 0))) := ⟨(blk_far (blk_far (blk_far (blk_far (blk_far (blk_far (blk_far (blk_far (blk_far BKg2.out NBg2_g5 _) NBg2_g5 _) NBg2_g5 _) NBg2_g5 _) NBg2_g5 _) NBg2_g5 _) NBg2_g5 _) NBg2_g5 _) NBg2_g5 _)⟩
  clear BKg2; have BKg2 := m_; clear m_
  have m_ : Aside0 ((((((((((W4.setCell ⟨g5, 0, none⟩ (.bool (!(ma == mb)))).setCell ⟨g5, 1, none⟩ (.int .i64 0)).setCell ⟨g5, 2, none⟩ (.int .i64 0)).setCell ⟨g5, 3, none⟩ (.int .i64 0)).setCell ⟨g5, 4, none⟩ (.int .i64 0)).setCell ⟨g5, 5, none⟩ (.int .i64 0)).setCell ⟨g5, 6, none⟩ (.int .i64 0)).setCell ⟨g5, 7, none⟩ (.int .i64 0)).setCell ⟨g5, 8, none⟩ (.int .i64 0)).heap[g3]? = some (.cells #[.bool false, .int .i64 0, .int .i64 0, .int .i64 0, .int .i64 0, .int .i64 0, .int .i64 0, .int .i64 0, .int .i64 0] 60 (0, 0))) := ⟨(blk_far (blk_far (blk_far (blk_far (blk_far (blk_far (blk_far (blk_far (blk_far BKg3.out NBg3_g5 _) NBg3_g5 _) NBg3_g5 _) NBg3_g5 _) NBg3_g5 _) NBg3_g5 _) NBg3_g5 _) NBg3_g5 _) NBg3_g5 _)⟩
  clear BKg3; have BKg3 := m_; clear m_
  have b_ : Aside0 (Below w.heap.size w (((((((((W4.setCell ⟨g5, 0, none⟩ (.bool (!(ma == mb)))).setCell ⟨g5, 1, none⟩ (.int .i64 0)).setCell ⟨g5, 2, none⟩ (.int .i64 0)).setCell ⟨g5, 3, none⟩ (.int .i64 0)).setCell ⟨g5, 4, none⟩ (.int .i64 0)).setCell ⟨g5, 5, none⟩ (.int .i64 0)).setCell ⟨g5, 6, none⟩ (.int .i64 0)).setCell ⟨g5, 7, none⟩ (.int .i64 0)).setCell ⟨g5, 8, none⟩ (.int .i64 0))) := ⟨(below_set (below_set (below_set (below_set (below_set (below_set (below_set (below_set (below_set HB.out GEg5.out) GEg5.out) GEg5.out) GEg5.out) GEg5.out) GEg5.out) GEg5.out) GEg5.out) GEg5.out)⟩
  clear BKg5 HB; have BKg5 := n_; have HB := b_; clear n_ b_
  clear hcg1_0 hfg1_0
  clear hcg1_1 hfg1_1
  clear hcg1_2 hfg1_2
  clear hcg1_3 hfg1_3
  clear hcg1_4 hfg1_4
  clear hcg1_5 hfg1_5
  clear hcg1_6 hfg1_6
  clear hcg1_7 hfg1_7
  clear hcg1_8 hfg1_8
  clear hcg2_0 hfg2_0
  clear hcg2_1 hfg2_1
  clear hcg2_2 hfg2_2
  clear hcg2_3 hfg2_3
  clear hcg2_4 hfg2_4
  clear hcg2_5 hfg2_5
  clear hcg2_6 hfg2_6
  clear hcg2_7 hfg2_7
  clear hcg2_8 hfg2_8
  clear hcg3_0 hfg3_0
  clear hcg3_1 hfg3_1
  clear hcg3_2 hfg3_2
  clear hcg3_3 hfg3_3
  clear hcg3_4 hfg3_4
  clear hcg3_5 hfg3_5
  clear hcg3_6 hfg3_6
  clear hcg3_7 hfg3_7
  clear hcg3_8 hfg3_8
  clear hcg5_0 hfg5_0
  clear hcg5_1 hfg5_1
  clear hcg5_2 hfg5_2
  clear hcg5_3 hfg5_3
  clear hcg5_4 hfg5_4
  clear hcg5_5 hfg5_5
  clear hcg5_6 hfg5_6
  clear hcg5_7 hfg5_7
  clear hcg5_8 hfg5_8
  generalize (((((((((W4.setCell ⟨g5, 0, none⟩ (.bool (!(ma == mb)))).setCell ⟨g5, 1, none⟩ (.int .i64 0)).setCell ⟨g5, 2, none⟩ (.int .i64 0)).setCell ⟨g5, 3, none⟩ (.int .i64 0)).setCell ⟨g5, 4, none⟩ (.int .i64 0)).setCell ⟨g5, 5, none⟩ (.int .i64 0)).setCell ⟨g5, 6, none⟩ (.int .i64 0)).setCell ⟨g5, 7, none⟩ (.int .i64 0)).setCell ⟨g5, 8, none⟩ (.int .i64 0)) = W5 at *
  have hcg1_0 : W5.cell? ⟨g1, 0, none⟩ = some (.bool ma) := (blk_cell BKg1.out 0).trans rfl
  have hfg1_0 := blk_frozen BKg1.out 0
  have hcg1_1 : W5.cell? ⟨g1, 1, none⟩ = some (.int .i64 (a 0)) := (blk_cell BKg1.out 1).trans rfl
  have hfg1_1 := blk_frozen BKg1.out 1
  have hcg1_2 : W5.cell? ⟨g1, 2, none⟩ = some (.int .i64 (a 1)) := (blk_cell BKg1.out 2).trans rfl
  have hfg1_2 := blk_frozen BKg1.out 2
  have hcg1_3 : W5.cell? ⟨g1, 3, none⟩ = some (.int .i64 (a 2)) := (blk_cell BKg1.out 3).trans rfl
  have hfg1_3 := blk_frozen BKg1.out 3
  have hcg1_4 : W5.cell? ⟨g1, 4, none⟩ = some (.int .i64 (a 3)) := (blk_cell BKg1.out 4).trans rfl
  have hfg1_4 := blk_frozen BKg1.out 4
  have hcg1_5 : W5.cell? ⟨g1, 5, none⟩ = some (.int .i64 (a 4)) := (blk_cell BKg1.out 5).trans rfl
  have hfg1_5 := blk_frozen BKg1.out 5
  have hcg1_6 : W5.cell? ⟨g1, 6, none⟩ = some (.int .i64 (a 5)) := (blk_cell BKg1.out 6).trans rfl
  have hfg1_6 := blk_frozen BKg1.out 6
  have hcg1_7 : W5.cell? ⟨g1, 7, none⟩ = some (.int .i64 (a 6)) := (blk_cell BKg1.out 7).trans rfl
  have hfg1_7 := blk_frozen BKg1.out 7
  have hcg1_8 : W5.cell? ⟨g1, 8, none⟩ = some (.int .i64 (a 7)) := (blk_cell BKg1.out 8).trans rfl
  have hfg1_8 := blk_frozen BKg1.out 8
  have hcg2_0 : W5.cell? ⟨g2, 0, none⟩ = some (.bool mb) := (blk_cell BKg2.out 0).trans rfl
  have hfg2_0 := blk_frozen BKg2.out 0
  have hcg2_1 : W5.cell? ⟨g2, 1, none⟩ = some (.int .i64 (b 0)) := (blk_cell BKg2.out 1).trans rfl
  have hfg2_1 := blk_frozen BKg2.out 1
  have hcg2_2 : W5.cell? ⟨g2, 2, none⟩ = some (.int .i64 (b 1)) := (blk_cell BKg2.out 2).trans rfl
  have hfg2_2 := blk_frozen BKg2.out 2
  have hcg2_3 : W5.cell? ⟨g2, 3, none⟩ = some (.int .i64 (b 2)) := (blk_cell BKg2.out 3).trans rfl
  have hfg2_3 := blk_frozen BKg2.out 3
  have hcg2_4 : W5.cell? ⟨g2, 4, none⟩ = some (.int .i64 (b 3)) := (blk_cell BKg2.out 4).trans rfl
  have hfg2_4 := blk_frozen BKg2.out 4
  have hcg2_5 : W5.cell? ⟨g2, 5, none⟩ = some (.int .i64 (b 4)) := (blk_cell BKg2.out 5).trans rfl
  have hfg2_5 := blk_frozen BKg2.out 5
  have hcg2_6 : W5.cell? ⟨g2, 6, none⟩ = some (.int .i64 (b 5)) := (blk_cell BKg2.out 6).trans rfl
  have hfg2_6 := blk_frozen BKg2.out 6
  have hcg2_7 : W5.cell? ⟨g2, 7, none⟩ = some (.int .i64 (b 6)) := (blk_cell BKg2.out 7).trans rfl
  have hfg2_7 := blk_frozen BKg2.out 7
  have hcg2_8 : W5.cell? ⟨g2, 8, none⟩ = some (.int .i64 (b 7)) := (blk_cell BKg2.out 8).trans rfl
  have hfg2_8 := blk_frozen BKg2.out 8
  have hcg3_0 : W5.cell? ⟨g3, 0, none⟩ = some (.bool false) := (blk_cell BKg3.out 0).trans rfl
  have hfg3_0 := blk_frozen BKg3.out 0
  have hcg3_1 : W5.cell? ⟨g3, 1, none⟩ = some (.int .i64 0) := (blk_cell BKg3.out 1).trans rfl
  have hfg3_1 := blk_frozen BKg3.out 1
  have hcg3_2 : W5.cell? ⟨g3, 2, none⟩ = some (.int .i64 0) := (blk_cell BKg3.out 2).trans rfl
  have hfg3_2 := blk_frozen BKg3.out 2
  have hcg3_3 : W5.cell? ⟨g3, 3, none⟩ = some (.int .i64 0) := (blk_cell BKg3.out 3).trans rfl
  have hfg3_3 := blk_frozen BKg3.out 3
  have hcg3_4 : W5.cell? ⟨g3, 4, none⟩ = some (.int .i64 0) := (blk_cell BKg3.out 4).trans rfl
  have hfg3_4 := blk_frozen BKg3.out 4
  have hcg3_5 : W5.cell? ⟨g3, 5, none⟩ = some (.int .i64 0) := (blk_cell BKg3.out 5).trans rfl
  have hfg3_5 := blk_frozen BKg3.out 5
  have hcg3_6 : W5.cell? ⟨g3, 6, none⟩ = some (.int .i64 0) := (blk_cell BKg3.out 6).trans rfl
  have hfg3_6 := blk_frozen BKg3.out 6
  have hcg3_7 : W5.cell? ⟨g3, 7, none⟩ = some (.int .i64 0) := (blk_cell BKg3.out 7).trans rfl
  have hfg3_7 := blk_frozen BKg3.out 7
  have hcg3_8 : W5.cell? ⟨g3, 8, none⟩ = some (.int .i64 0) := (blk_cell BKg3.out 8).trans rfl
  have hfg3_8 := blk_frozen BKg3.out 8
  have hcg5_0 : W5.cell? ⟨g5, 0, none⟩ = some (.bool (!(ma == mb))) := (blk_cell BKg5.out 0).trans rfl
  have hfg5_0 := blk_frozen BKg5.out 0
  have hcg5_1 : W5.cell? ⟨g5, 1, none⟩ = some (.int .i64 0) := (blk_cell BKg5.out 1).trans rfl
  have hfg5_1 := blk_frozen BKg5.out 1
  have hcg5_2 : W5.cell? ⟨g5, 2, none⟩ = some (.int .i64 0) := (blk_cell BKg5.out 2).trans rfl
  have hfg5_2 := blk_frozen BKg5.out 2
  have hcg5_3 : W5.cell? ⟨g5, 3, none⟩ = some (.int .i64 0) := (blk_cell BKg5.out 3).trans rfl
  have hfg5_3 := blk_frozen BKg5.out 3
  have hcg5_4 : W5.cell? ⟨g5, 4, none⟩ = some (.int .i64 0) := (blk_cell BKg5.out 4).trans rfl
  have hfg5_4 := blk_frozen BKg5.out 4
  have hcg5_5 : W5.cell? ⟨g5, 5, none⟩ = some (.int .i64 0) := (blk_cell BKg5.out 5).trans rfl
  have hfg5_5 := blk_frozen BKg5.out 5
  have hcg5_6 : W5.cell? ⟨g5, 6, none⟩ = some (.int .i64 0) := (blk_cell BKg5.out 6).trans rfl
  have hfg5_6 := blk_frozen BKg5.out 6
  have hcg5_7 : W5.cell? ⟨g5, 7, none⟩ = some (.int .i64 0) := (blk_cell BKg5.out 7).trans rfl
  have hfg5_7 := blk_frozen BKg5.out 7
  have hcg5_8 : W5.cell? ⟨g5, 8, none⟩ = some (.int .i64 0) := (blk_cell BKg5.out 8).trans rfl
  have hfg5_8 := blk_frozen BKg5.out 8
  go_loopw [6] (fun vi wr => ∃ (i : Nat) (D : Nat → Int), vi = .int .i64 i ∧ Aside0 (TO a b i D) ∧ Aside0 (wr.heap[g5]? = some (.cells (bigA (!(ma == mb)) D) 60 (0, 0))) ∧ Aside0 (wr.heap[g1]? = some (.cells (bigA ma a) 60 (0, 0))) ∧ Aside0 (wr.heap[g2]? = some (.cells (bigA mb b) 60 (0, 0))) ∧ Aside0 (wr.heap[g3]? = some (.cells #[.bool false, .int .i64 0, .int .i64 0, .int .i64 0, .int .i64 0, .int .i64 0, .int .i64 0, .int .i64 0, .int .i64 0] 60 (0, 0))) ∧ Aside0 (Below w.heap.size w wr)) (fun vi _ => 4 - (intOf vi).toNat)
  case atStart => exact ⟨0, (fun _ => 0), rfl, ⟨TO.start a b⟩, BKg5, BKg1, BKg2, BKg3, HB⟩
  case round =>
    clear BKg1 BKg2 BKg3 BKg5 HB hcg1_0 hfg1_0 hcg1_1 hfg1_1 hcg1_2 hfg1_2 hcg1_3 hfg1_3 hcg1_4 hfg1_4 hcg1_5 hfg1_5 hcg1_6 hfg1_6 hcg1_7 hfg1_7 hcg1_8 hfg1_8 hcg2_0 hfg2_0 hcg2_1 hfg2_1 hcg2_2 hfg2_2 hcg2_3 hfg2_3 hcg2_4 hfg2_4 hcg2_5 hfg2_5 hcg2_6 hfg2_6 hcg2_7 hfg2_7 hcg2_8 hfg2_8 hcg3_0 hfg3_0 hcg3_1 hfg3_1 hcg3_2 hfg3_2 hcg3_3 hfg3_3 hcg3_4 hfg3_4 hcg3_5 hfg3_5 hcg3_6 hfg3_6 hcg3_7 hfg3_7 hcg3_8 hfg3_8 hcg5_0 hfg5_0 hcg5_1 hfg5_1 hcg5_2 hfg5_2 hcg5_3 hfg5_3 hcg5_4 hfg5_4 hcg5_5 hfg5_5 hcg5_6 hfg5_6 hcg5_7 hfg5_7 hcg5_8 hfg5_8
    obtain ⟨i, D, rfl, HR, BKg5, BKg1, BKg2, BKg3, HB⟩ := hrel
    have hi4 := HR.out.i4
    obtain ⟨wo, rfl⟩ : ∃ wo : World, wo = wr := ⟨_, rfl⟩
    by_cases hlt : i < 4
    · go_wp2
      go_loopw [7, 8] (fun vo vk wi => ∃ (k : Nat) (o : Int) (D : Nat → Int), vo = .int .i64 o ∧ vk = .int .i64 k ∧ Aside0 (TI a b i k o D) ∧ Aside0 (wi.heap[g5]? = some (.cells (bigA (!(ma == mb)) D) 60 (0, 0))) ∧ Aside0 (wi.heap[g1]? = some (.cells (bigA ma a) 60 (0, 0))) ∧ Aside0 (wi.heap[g2]? = some (.cells (bigA mb b) 60 (0, 0))) ∧ Aside0 (wi.heap[g3]? = some (.cells #[.bool false, .int .i64 0, .int .i64 0, .int .i64 0, .int .i64 0, .int .i64 0, .int .i64 0, .int .i64 0, .int .i64 0] 60 (0, 0))) ∧ Aside0 (Below w.heap.size w wi)) (fun _ vk _ => 4 - (intOf vk).toNat)
      case atStart => exact ⟨0, 0, D, rfl, rfl, ⟨HR.out.enter⟩, BKg5, BKg1, BKg2, BKg3, HB⟩
      case round =>
        clear HR BKg1 BKg2 BKg3 BKg5 HB
        obtain ⟨k, o, D, rfl, rfl, HR, BKg5, BKg1, BKg2, BKg3, HB⟩ := hrel
        have hk4 := HR.out.k4; have o0 := HR.out.o0; have o1 := HR.out.o1
        by_cases hk : k < 4
        · obtain ⟨x, hx⟩ : ∃ x, x = a i := ⟨_, rfl⟩
          obtain ⟨y, hy⟩ : ∃ y, y = b k := ⟨_, rfl⟩
          obtain ⟨z, hz⟩ : ∃ z, z = D (i + k) := ⟨_, rfl⟩
          have dx := ha.dig i (by omega); have dy := hb.dig k (by omega); have dz := HR.out.dig (i + k) (by omega)
          have dp := prod_digits dx dy
          rw [← hx] at dx dp; rw [← hy] at dy dp; rw [← hz] at dz
          obtain ⟨x0, x1⟩ := dx; obtain ⟨y0, y1⟩ := dy; obtain ⟨z0, z1⟩ := dz; obtain ⟨p0, p1⟩ := dp
          obtain ⟨pr, hpr⟩ : ∃ pr, pr = x * y := ⟨_, rfl⟩
          rw [← hpr] at p0 p1
          have hm : x * y = pr := hpr.symm
          have c5 : wr.cell? ⟨g5, 1 + (i + k), none⟩ = some (.int .i64 z) := (blk_cell BKg5.out (1 + (i + k))).trans ((big_get (!(ma == mb)) D (by omega)).trans (by rw [hz]))
          have f5 := blk_frozen BKg5.out (1 + (i + k))
          have c1 : wr.cell? ⟨g1, 1 + i, none⟩ = some (.int .i64 x) := (blk_cell BKg1.out (1 + i)).trans ((big_get ma a (by omega)).trans (by rw [hx]))
          have c2 : wr.cell? ⟨g2, 1 + k, none⟩ = some (.int .i64 y) := (blk_cell BKg2.out (1 + k)).trans ((big_get mb b (by omega)).trans (by rw [hy]))
          have HX := Lib.hid hx; have HY := Lib.hid hy; have HZ := Lib.hid hz; have HP := Lib.hid hpr
          clear hx hy hz hpr
          go_wp2
          go_quiet (fail)
          go_wp2
          exact ⟨⟨k + 1, (z + pr + o) / 65536, upd D (i + k) ((z + pr + o) % 65536), rfl, rfl, ⟨HR.out.step ha.dig hb.dig hlt hk (by rw [HZ.out, HP.out, HX.out, HY.out])⟩, ⟨blk_put (blk_drewN BKg5.out nq) _ _ (big_set _ D (by omega) _)⟩, ⟨blk_far (blk_drewN BKg1.out nq) NBg1_g5 _⟩, ⟨blk_far (blk_drewN BKg2.out nq) NBg2_g5 _⟩, ⟨blk_far (blk_drewN BKg3.out nq) NBg3_g5 _⟩, ⟨below_set (pw_below_drewN HB.out nq) GEg5.out⟩⟩, by simp [intOf]; omega⟩
        · have e : k = 4 := by omega
          subst e
          have dz := HR.out.dig (i + 4) (by omega)
          obtain ⟨z, hz⟩ : ∃ z, z = D (i + 4) := ⟨_, rfl⟩
          rw [← hz] at dz; obtain ⟨z0, z1⟩ := dz
          have c5 : wr.cell? ⟨g5, 1 + (i + 4), none⟩ = some (.int .i64 z) := (blk_cell BKg5.out (1 + (i + 4))).trans ((big_get (!(ma == mb)) D (by omega)).trans (by rw [hz]))
          have f5 := blk_frozen BKg5.out (1 + (i + 4))
          have HZ := Lib.hid hz; clear hz
          go_wp2
          exact ⟨⟨i + 1, upd D (i + 4) (z + o), rfl, ⟨by rw [HZ.out]; exact HR.out.leave hlt⟩, ⟨blk_put BKg5.out _ _ (big_set _ D (by omega) _)⟩, ⟨blk_far BKg1.out NBg1_g5 _⟩, ⟨blk_far BKg2.out NBg2_g5 _⟩, ⟨blk_far BKg3.out NBg3_g5 _⟩, ⟨below_set HB.out GEg5.out⟩⟩, by simp [intOf]; omega⟩
    · have e : i = 4 := by omega
      subst e
      have hrep := HR.out.done ha hb hA hB
      have hcg5_0 : wo.cell? ⟨g5, 0, none⟩ = some (.bool (!(ma == mb))) := (blk_cell BKg5.out 0).trans rfl; have hfg5_0 := blk_frozen BKg5.out 0
      have hcg5_1 : wo.cell? ⟨g5, 1, none⟩ = some (.int .i64 (D 0)) := (blk_cell BKg5.out 1).trans rfl; have hfg5_1 := blk_frozen BKg5.out 1
      have hcg5_2 : wo.cell? ⟨g5, 2, none⟩ = some (.int .i64 (D 1)) := (blk_cell BKg5.out 2).trans rfl; have hfg5_2 := blk_frozen BKg5.out 2
      have hcg5_3 : wo.cell? ⟨g5, 3, none⟩ = some (.int .i64 (D 2)) := (blk_cell BKg5.out 3).trans rfl; have hfg5_3 := blk_frozen BKg5.out 3
      have hcg5_4 : wo.cell? ⟨g5, 4, none⟩ = some (.int .i64 (D 3)) := (blk_cell BKg5.out 4).trans rfl; have hfg5_4 := blk_frozen BKg5.out 4
      have hcg5_5 : wo.cell? ⟨g5, 5, none⟩ = some (.int .i64 (D 4)) := (blk_cell BKg5.out 5).trans rfl; have hfg5_5 := blk_frozen BKg5.out 5
      have hcg5_6 : wo.cell? ⟨g5, 6, none⟩ = some (.int .i64 (D 5)) := (blk_cell BKg5.out 6).trans rfl; have hfg5_6 := blk_frozen BKg5.out 6
      have hcg5_7 : wo.cell? ⟨g5, 7, none⟩ = some (.int .i64 (D 6)) := (blk_cell BKg5.out 7).trans rfl; have hfg5_7 := blk_frozen BKg5.out 7
      have hcg5_8 : wo.cell? ⟨g5, 8, none⟩ = some (.int .i64 (D 7)) := (blk_cell BKg5.out 8).trans rfl; have hfg5_8 := blk_frozen BKg5.out 8
      have hcg3_0 : wo.cell? ⟨g3, 0, none⟩ = some (.bool false) := (blk_cell BKg3.out 0).trans rfl; have hfg3_0 := blk_frozen BKg3.out 0
      have hcg3_1 : wo.cell? ⟨g3, 1, none⟩ = some (.int .i64 0) := (blk_cell BKg3.out 1).trans rfl; have hfg3_1 := blk_frozen BKg3.out 1
      have hcg3_2 : wo.cell? ⟨g3, 2, none⟩ = some (.int .i64 0) := (blk_cell BKg3.out 2).trans rfl; have hfg3_2 := blk_frozen BKg3.out 2
      have hcg3_3 : wo.cell? ⟨g3, 3, none⟩ = some (.int .i64 0) := (blk_cell BKg3.out 3).trans rfl; have hfg3_3 := blk_frozen BKg3.out 3
      have hcg3_4 : wo.cell? ⟨g3, 4, none⟩ = some (.int .i64 0) := (blk_cell BKg3.out 4).trans rfl; have hfg3_4 := blk_frozen BKg3.out 4
      have hcg3_5 : wo.cell? ⟨g3, 5, none⟩ = some (.int .i64 0) := (blk_cell BKg3.out 5).trans rfl; have hfg3_5 := blk_frozen BKg3.out 5
      have hcg3_6 : wo.cell? ⟨g3, 6, none⟩ = some (.int .i64 0) := (blk_cell BKg3.out 6).trans rfl; have hfg3_6 := blk_frozen BKg3.out 6
      have hcg3_7 : wo.cell? ⟨g3, 7, none⟩ = some (.int .i64 0) := (blk_cell BKg3.out 7).trans rfl; have hfg3_7 := blk_frozen BKg3.out 7
      have hcg3_8 : wo.cell? ⟨g3, 8, none⟩ = some (.int .i64 0) := (blk_cell BKg3.out 8).trans rfl; have hfg3_8 := blk_frozen BKg3.out 8
      go_wp2
      refine bodyPost_ret (results_cell_row rfl _ _ g3 60 #[.bool (!(ma == mb)), .int .i64 (D 0), .int .i64 (D 1), .int .i64 (D 2), .int .i64 (D 3), .int .i64 (D 4), .int .i64 (D 5), .int .i64 (D 6), .int .i64 (D 7)] (0, 0) _ rfl (by (with_reducible repeat (first | refine blk_drewN ?_ _ | refine blk_drew ?_ | refine blk_alloc ?_ _)); refine blk_put (cs := #[.bool (!(ma == mb)), .int .i64 (D 0), .int .i64 (D 1), .int .i64 (D 2), .int .i64 (D 3), .int .i64 (D 4), .int .i64 (D 5), .int .i64 (D 6), .int .i64 0]) ?_ 8 _ rfl; (with_reducible repeat (first | refine blk_drewN ?_ _ | refine blk_drew ?_ | refine blk_alloc ?_ _)); refine blk_put (cs := #[.bool (!(ma == mb)), .int .i64 (D 0), .int .i64 (D 1), .int .i64 (D 2), .int .i64 (D 3), .int .i64 (D 4), .int .i64 (D 5), .int .i64 0, .int .i64 0]) ?_ 7 _ rfl; (with_reducible repeat (first | refine blk_drewN ?_ _ | refine blk_drew ?_ | refine blk_alloc ?_ _)); refine blk_put (cs := #[.bool (!(ma == mb)), .int .i64 (D 0), .int .i64 (D 1), .int .i64 (D 2), .int .i64 (D 3), .int .i64 (D 4), .int .i64 0, .int .i64 0, .int .i64 0]) ?_ 6 _ rfl; (with_reducible repeat (first | refine blk_drewN ?_ _ | refine blk_drew ?_ | refine blk_alloc ?_ _)); refine blk_put (cs := #[.bool (!(ma == mb)), .int .i64 (D 0), .int .i64 (D 1), .int .i64 (D 2), .int .i64 (D 3), .int .i64 0, .int .i64 0, .int .i64 0, .int .i64 0]) ?_ 5 _ rfl; (with_reducible repeat (first | refine blk_drewN ?_ _ | refine blk_drew ?_ | refine blk_alloc ?_ _)); refine blk_put (cs := #[.bool (!(ma == mb)), .int .i64 (D 0), .int .i64 (D 1), .int .i64 (D 2), .int .i64 0, .int .i64 0, .int .i64 0, .int .i64 0, .int .i64 0]) ?_ 4 _ rfl; (with_reducible repeat (first | refine blk_drewN ?_ _ | refine blk_drew ?_ | refine blk_alloc ?_ _)); refine blk_put (cs := #[.bool (!(ma == mb)), .int .i64 (D 0), .int .i64 (D 1), .int .i64 0, .int .i64 0, .int .i64 0, .int .i64 0, .int .i64 0, .int .i64 0]) ?_ 3 _ rfl; (with_reducible repeat (first | refine blk_drewN ?_ _ | refine blk_drew ?_ | refine blk_alloc ?_ _)); refine blk_put (cs := #[.bool (!(ma == mb)), .int .i64 (D 0), .int .i64 0, .int .i64 0, .int .i64 0, .int .i64 0, .int .i64 0, .int .i64 0, .int .i64 0]) ?_ 2 _ rfl; (with_reducible repeat (first | refine blk_drewN ?_ _ | refine blk_drew ?_ | refine blk_alloc ?_ _)); refine blk_put (cs := #[.bool (!(ma == mb)), .int .i64 0, .int .i64 0, .int .i64 0, .int .i64 0, .int .i64 0, .int .i64 0, .int .i64 0, .int .i64 0]) ?_ 1 _ rfl; (with_reducible repeat (first | refine blk_drewN ?_ _ | refine blk_drew ?_ | refine blk_alloc ?_ _)); refine blk_put (cs := #[.bool false, .int .i64 0, .int .i64 0, .int .i64 0, .int .i64 0, .int .i64 0, .int .i64 0, .int .i64 0, .int .i64 0]) ?_ 0 _ rfl; (with_reducible repeat (first | refine blk_drewN ?_ _ | refine blk_drew ?_ | refine blk_alloc ?_ _)); exact BKg3.out) Tryd.underlying60 rfl (by kernel_rfl)) rfl ?_
      exact ⟨D, rfl, hrep, by repeat (first | (with_reducible first | exact HB.out | apply below_alloc | apply pw_below_drewN | apply below_drew1 | refine below_set ?_ GEg3.out) | exact HB.out)⟩
end Go.Proofs.YtcnibfancjofhaaDoor

/- The reference's great numbers: Shift, Stop, Compare. -/
namespace Go.Proofs.YtcnibfancjofhaaDoor
open Go.RowKit Go.Proofs.YtcnibfancjofhaaDoorW.PrintWords Go.Proofs.YtcnibfancjofhaaDoorW.PrintLast Go.Proofs.YtcnibfancjofhaaDoorW.PrintMore
set_option linter.unusedVariables false
set_option linter.unusedSimpArgs false
set_option maxHeartbeats 8000000 in
set_option maxRecDepth 100000 in
theorem shift_m2 (m : Bool) (a : Nat → Int) (V : Int) (w : World) (ha : Rep a V)  :
    Calls Tryd.prog 48 #[.agg (bigA m a), .int .i64 (-2)] w
      fun e w' => ∃ D, e = .returned (.agg (bigA m D)) ∧ Rep D (V / 4294967296) ∧ Below w.heap.size w w' := by
  have HB := Aside0.mk (Below.refl w.heap.size w)
  go_enter Tryd.func48, Tryd.ntmps48
  go_wp2_with (first | ((with_reducible refine gate_dst (N := 2) rfl ?_); refine box_event ?hg (N := 2) ?hd (cs := (bigA m a)) (t := 60) ?hr ?_; (case hd => rfl); (case hg => rfl); (case hr => first | (go_simp; done) | (go_simp; rfl)); intro g2 hg_ W1 hbox_ hb_; have GEg2 := Aside0.mk ((by rw [hg_]; exact (below_size HB.out)) : w.heap.size ≤ g2); clear hg_; have n_ := Aside0.mk (below_step HB.out hb_); clear HB; have HB := n_; clear n_; have BKg2 := Aside0.mk hbox_; clear hbox_ hb_; have hcg2_0 : W1.cell? ⟨g2, 0, none⟩ = some (.bool m) := (blk_cell BKg2.out 0).trans rfl; have hfg2_0 := blk_frozen BKg2.out 0; have hcg2_1 : W1.cell? ⟨g2, 1, none⟩ = some (.int .i64 (a 0)) := (blk_cell BKg2.out 1).trans rfl; have hfg2_1 := blk_frozen BKg2.out 1; have hcg2_2 : W1.cell? ⟨g2, 2, none⟩ = some (.int .i64 (a 1)) := (blk_cell BKg2.out 2).trans rfl; have hfg2_2 := blk_frozen BKg2.out 2; have hcg2_3 : W1.cell? ⟨g2, 3, none⟩ = some (.int .i64 (a 2)) := (blk_cell BKg2.out 3).trans rfl; have hfg2_3 := blk_frozen BKg2.out 3; have hcg2_4 : W1.cell? ⟨g2, 4, none⟩ = some (.int .i64 (a 3)) := (blk_cell BKg2.out 4).trans rfl; have hfg2_4 := blk_frozen BKg2.out 4; have hcg2_5 : W1.cell? ⟨g2, 5, none⟩ = some (.int .i64 (a 4)) := (blk_cell BKg2.out 5).trans rfl; have hfg2_5 := blk_frozen BKg2.out 5; have hcg2_6 : W1.cell? ⟨g2, 6, none⟩ = some (.int .i64 (a 5)) := (blk_cell BKg2.out 6).trans rfl; have hfg2_6 := blk_frozen BKg2.out 6; have hcg2_7 : W1.cell? ⟨g2, 7, none⟩ = some (.int .i64 (a 6)) := (blk_cell BKg2.out 7).trans rfl; have hfg2_7 := blk_frozen BKg2.out 7; have hcg2_8 : W1.cell? ⟨g2, 8, none⟩ = some (.int .i64 (a 7)) := (blk_cell BKg2.out 8).trans rfl; have hfg2_8 := blk_frozen BKg2.out 8) | ((with_reducible refine gate_dst (N := 4) rfl ?_); refine box_event ?hg (N := 4) ?hd (cs := #[.bool false, .int .i64 0, .int .i64 0, .int .i64 0, .int .i64 0, .int .i64 0, .int .i64 0, .int .i64 0, .int .i64 0]) (t := 60) ?hr ?_; (case hd => rfl); (case hg => rfl); (case hr => first | (go_simp; done) | (go_simp; rfl)); intro g3 hg_ W2 hbox_ hb_; have GEg3 := Aside0.mk ((by rw [hg_]; exact (below_size HB.out)) : w.heap.size ≤ g3); have NBg2_g3 : g2 ≠ g3 := (by rw [hg_]; exact Nat.ne_of_lt (blk_lt BKg2.out)); have NBg3_g2 : g3 ≠ g2 := Ne.symm NBg2_g3; clear hg_; have n_ := Aside0.mk (blk_below BKg2.out hb_); clear BKg2; have BKg2 := n_; clear n_; clear hcg2_0 hfg2_0; clear hcg2_1 hfg2_1; clear hcg2_2 hfg2_2; clear hcg2_3 hfg2_3; clear hcg2_4 hfg2_4; clear hcg2_5 hfg2_5; clear hcg2_6 hfg2_6; clear hcg2_7 hfg2_7; clear hcg2_8 hfg2_8; have n_ := Aside0.mk (below_step HB.out hb_); clear HB; have HB := n_; clear n_; have BKg3 := Aside0.mk hbox_; clear hbox_ hb_; have hcg2_0 : W2.cell? ⟨g2, 0, none⟩ = some (.bool m) := (blk_cell BKg2.out 0).trans rfl; have hfg2_0 := blk_frozen BKg2.out 0; have hcg2_1 : W2.cell? ⟨g2, 1, none⟩ = some (.int .i64 (a 0)) := (blk_cell BKg2.out 1).trans rfl; have hfg2_1 := blk_frozen BKg2.out 1; have hcg2_2 : W2.cell? ⟨g2, 2, none⟩ = some (.int .i64 (a 1)) := (blk_cell BKg2.out 2).trans rfl; have hfg2_2 := blk_frozen BKg2.out 2; have hcg2_3 : W2.cell? ⟨g2, 3, none⟩ = some (.int .i64 (a 2)) := (blk_cell BKg2.out 3).trans rfl; have hfg2_3 := blk_frozen BKg2.out 3; have hcg2_4 : W2.cell? ⟨g2, 4, none⟩ = some (.int .i64 (a 3)) := (blk_cell BKg2.out 4).trans rfl; have hfg2_4 := blk_frozen BKg2.out 4; have hcg2_5 : W2.cell? ⟨g2, 5, none⟩ = some (.int .i64 (a 4)) := (blk_cell BKg2.out 5).trans rfl; have hfg2_5 := blk_frozen BKg2.out 5; have hcg2_6 : W2.cell? ⟨g2, 6, none⟩ = some (.int .i64 (a 5)) := (blk_cell BKg2.out 6).trans rfl; have hfg2_6 := blk_frozen BKg2.out 6; have hcg2_7 : W2.cell? ⟨g2, 7, none⟩ = some (.int .i64 (a 6)) := (blk_cell BKg2.out 7).trans rfl; have hfg2_7 := blk_frozen BKg2.out 7; have hcg2_8 : W2.cell? ⟨g2, 8, none⟩ = some (.int .i64 (a 7)) := (blk_cell BKg2.out 8).trans rfl; have hfg2_8 := blk_frozen BKg2.out 8; have hcg3_0 : W2.cell? ⟨g3, 0, none⟩ = some (.bool false) := (blk_cell BKg3.out 0).trans rfl; have hfg3_0 := blk_frozen BKg3.out 0; have hcg3_1 : W2.cell? ⟨g3, 1, none⟩ = some (.int .i64 0) := (blk_cell BKg3.out 1).trans rfl; have hfg3_1 := blk_frozen BKg3.out 1; have hcg3_2 : W2.cell? ⟨g3, 2, none⟩ = some (.int .i64 0) := (blk_cell BKg3.out 2).trans rfl; have hfg3_2 := blk_frozen BKg3.out 2; have hcg3_3 : W2.cell? ⟨g3, 3, none⟩ = some (.int .i64 0) := (blk_cell BKg3.out 3).trans rfl; have hfg3_3 := blk_frozen BKg3.out 3; have hcg3_4 : W2.cell? ⟨g3, 4, none⟩ = some (.int .i64 0) := (blk_cell BKg3.out 4).trans rfl; have hfg3_4 := blk_frozen BKg3.out 4; have hcg3_5 : W2.cell? ⟨g3, 5, none⟩ = some (.int .i64 0) := (blk_cell BKg3.out 5).trans rfl; have hfg3_5 := blk_frozen BKg3.out 5; have hcg3_6 : W2.cell? ⟨g3, 6, none⟩ = some (.int .i64 0) := (blk_cell BKg3.out 6).trans rfl; have hfg3_6 := blk_frozen BKg3.out 6; have hcg3_7 : W2.cell? ⟨g3, 7, none⟩ = some (.int .i64 0) := (blk_cell BKg3.out 7).trans rfl; have hfg3_7 := blk_frozen BKg3.out 7; have hcg3_8 : W2.cell? ⟨g3, 8, none⟩ = some (.int .i64 0) := (blk_cell BKg3.out 8).trans rfl; have hfg3_8 := blk_frozen BKg3.out 8) | ((with_reducible refine gate_dst (N := 5) rfl ?_); refine box_event ?hg (N := 5) ?hd (cs := #[.bool false, .int .i64 0, .int .i64 0, .int .i64 0, .int .i64 0, .int .i64 0, .int .i64 0, .int .i64 0, .int .i64 0]) (t := 60) ?hr ?_; (case hd => rfl); (case hg => rfl); (case hr => first | (go_simp; done) | (go_simp; rfl)); intro g5 hg_ W3 hbox_ hb_; have GEg5 := Aside0.mk ((by rw [hg_]; exact (below_size HB.out)) : w.heap.size ≤ g5); have NBg2_g5 : g2 ≠ g5 := (by rw [hg_]; exact Nat.ne_of_lt (blk_lt BKg2.out)); have NBg5_g2 : g5 ≠ g2 := Ne.symm NBg2_g5; have NBg3_g5 : g3 ≠ g5 := (by rw [hg_]; exact Nat.ne_of_lt (blk_lt BKg3.out)); have NBg5_g3 : g5 ≠ g3 := Ne.symm NBg3_g5; clear hg_; have n_ := Aside0.mk (blk_below BKg2.out hb_); clear BKg2; have BKg2 := n_; clear n_; clear hcg2_0 hfg2_0; clear hcg2_1 hfg2_1; clear hcg2_2 hfg2_2; clear hcg2_3 hfg2_3; clear hcg2_4 hfg2_4; clear hcg2_5 hfg2_5; clear hcg2_6 hfg2_6; clear hcg2_7 hfg2_7; clear hcg2_8 hfg2_8; have n_ := Aside0.mk (blk_below BKg3.out hb_); clear BKg3; have BKg3 := n_; clear n_; clear hcg3_0 hfg3_0; clear hcg3_1 hfg3_1; clear hcg3_2 hfg3_2; clear hcg3_3 hfg3_3; clear hcg3_4 hfg3_4; clear hcg3_5 hfg3_5; clear hcg3_6 hfg3_6; clear hcg3_7 hfg3_7; clear hcg3_8 hfg3_8; have n_ := Aside0.mk (below_step HB.out hb_); clear HB; have HB := n_; clear n_; have BKg5 := Aside0.mk hbox_; clear hbox_ hb_; have hcg2_0 : W3.cell? ⟨g2, 0, none⟩ = some (.bool m) := (blk_cell BKg2.out 0).trans rfl; have hfg2_0 := blk_frozen BKg2.out 0; have hcg2_1 : W3.cell? ⟨g2, 1, none⟩ = some (.int .i64 (a 0)) := (blk_cell BKg2.out 1).trans rfl; have hfg2_1 := blk_frozen BKg2.out 1; have hcg2_2 : W3.cell? ⟨g2, 2, none⟩ = some (.int .i64 (a 1)) := (blk_cell BKg2.out 2).trans rfl; have hfg2_2 := blk_frozen BKg2.out 2; have hcg2_3 : W3.cell? ⟨g2, 3, none⟩ = some (.int .i64 (a 2)) := (blk_cell BKg2.out 3).trans rfl; have hfg2_3 := blk_frozen BKg2.out 3; have hcg2_4 : W3.cell? ⟨g2, 4, none⟩ = some (.int .i64 (a 3)) := (blk_cell BKg2.out 4).trans rfl; have hfg2_4 := blk_frozen BKg2.out 4; have hcg2_5 : W3.cell? ⟨g2, 5, none⟩ = some (.int .i64 (a 4)) := (blk_cell BKg2.out 5).trans rfl; have hfg2_5 := blk_frozen BKg2.out 5; have hcg2_6 : W3.cell? ⟨g2, 6, none⟩ = some (.int .i64 (a 5)) := (blk_cell BKg2.out 6).trans rfl; have hfg2_6 := blk_frozen BKg2.out 6; have hcg2_7 : W3.cell? ⟨g2, 7, none⟩ = some (.int .i64 (a 6)) := (blk_cell BKg2.out 7).trans rfl; have hfg2_7 := blk_frozen BKg2.out 7; have hcg2_8 : W3.cell? ⟨g2, 8, none⟩ = some (.int .i64 (a 7)) := (blk_cell BKg2.out 8).trans rfl; have hfg2_8 := blk_frozen BKg2.out 8; have hcg3_0 : W3.cell? ⟨g3, 0, none⟩ = some (.bool false) := (blk_cell BKg3.out 0).trans rfl; have hfg3_0 := blk_frozen BKg3.out 0; have hcg3_1 : W3.cell? ⟨g3, 1, none⟩ = some (.int .i64 0) := (blk_cell BKg3.out 1).trans rfl; have hfg3_1 := blk_frozen BKg3.out 1; have hcg3_2 : W3.cell? ⟨g3, 2, none⟩ = some (.int .i64 0) := (blk_cell BKg3.out 2).trans rfl; have hfg3_2 := blk_frozen BKg3.out 2; have hcg3_3 : W3.cell? ⟨g3, 3, none⟩ = some (.int .i64 0) := (blk_cell BKg3.out 3).trans rfl; have hfg3_3 := blk_frozen BKg3.out 3; have hcg3_4 : W3.cell? ⟨g3, 4, none⟩ = some (.int .i64 0) := (blk_cell BKg3.out 4).trans rfl; have hfg3_4 := blk_frozen BKg3.out 4; have hcg3_5 : W3.cell? ⟨g3, 5, none⟩ = some (.int .i64 0) := (blk_cell BKg3.out 5).trans rfl; have hfg3_5 := blk_frozen BKg3.out 5; have hcg3_6 : W3.cell? ⟨g3, 6, none⟩ = some (.int .i64 0) := (blk_cell BKg3.out 6).trans rfl; have hfg3_6 := blk_frozen BKg3.out 6; have hcg3_7 : W3.cell? ⟨g3, 7, none⟩ = some (.int .i64 0) := (blk_cell BKg3.out 7).trans rfl; have hfg3_7 := blk_frozen BKg3.out 7; have hcg3_8 : W3.cell? ⟨g3, 8, none⟩ = some (.int .i64 0) := (blk_cell BKg3.out 8).trans rfl; have hfg3_8 := blk_frozen BKg3.out 8; have hcg5_0 : W3.cell? ⟨g5, 0, none⟩ = some (.bool false) := (blk_cell BKg5.out 0).trans rfl; have hfg5_0 := blk_frozen BKg5.out 0; have hcg5_1 : W3.cell? ⟨g5, 1, none⟩ = some (.int .i64 0) := (blk_cell BKg5.out 1).trans rfl; have hfg5_1 := blk_frozen BKg5.out 1; have hcg5_2 : W3.cell? ⟨g5, 2, none⟩ = some (.int .i64 0) := (blk_cell BKg5.out 2).trans rfl; have hfg5_2 := blk_frozen BKg5.out 2; have hcg5_3 : W3.cell? ⟨g5, 3, none⟩ = some (.int .i64 0) := (blk_cell BKg5.out 3).trans rfl; have hfg5_3 := blk_frozen BKg5.out 3; have hcg5_4 : W3.cell? ⟨g5, 4, none⟩ = some (.int .i64 0) := (blk_cell BKg5.out 4).trans rfl; have hfg5_4 := blk_frozen BKg5.out 4; have hcg5_5 : W3.cell? ⟨g5, 5, none⟩ = some (.int .i64 0) := (blk_cell BKg5.out 5).trans rfl; have hfg5_5 := blk_frozen BKg5.out 5; have hcg5_6 : W3.cell? ⟨g5, 6, none⟩ = some (.int .i64 0) := (blk_cell BKg5.out 6).trans rfl; have hfg5_6 := blk_frozen BKg5.out 6; have hcg5_7 : W3.cell? ⟨g5, 7, none⟩ = some (.int .i64 0) := (blk_cell BKg5.out 7).trans rfl; have hfg5_7 := blk_frozen BKg5.out 7; have hcg5_8 : W3.cell? ⟨g5, 8, none⟩ = some (.int .i64 0) := (blk_cell BKg5.out 8).trans rfl; have hfg5_8 := blk_frozen BKg5.out 8))
  have n_ : Aside0 ((((((((((W3.setCell ⟨g5, 0, none⟩ (.bool m)).setCell ⟨g5, 1, none⟩ (.int .i64 0)).setCell ⟨g5, 2, none⟩ (.int .i64 0)).setCell ⟨g5, 3, none⟩ (.int .i64 0)).setCell ⟨g5, 4, none⟩ (.int .i64 0)).setCell ⟨g5, 5, none⟩ (.int .i64 0)).setCell ⟨g5, 6, none⟩ (.int .i64 0)).setCell ⟨g5, 7, none⟩ (.int .i64 0)).setCell ⟨g5, 8, none⟩ (.int .i64 0)).heap[g5]? = some (.cells #[.bool m, .int .i64 0, .int .i64 0, .int .i64 0, .int .i64 0, .int .i64 0, .int .i64 0, .int .i64 0, .int .i64 0] 60 (0, 0))) := ⟨by refine blk_put (cs := #[.bool m, .int .i64 0, .int .i64 0, .int .i64 0, .int .i64 0, .int .i64 0, .int .i64 0, .int .i64 0, .int .i64 0]) ?_ 8 _ rfl; refine blk_put (cs := #[.bool m, .int .i64 0, .int .i64 0, .int .i64 0, .int .i64 0, .int .i64 0, .int .i64 0, .int .i64 0, .int .i64 0]) ?_ 7 _ rfl; refine blk_put (cs := #[.bool m, .int .i64 0, .int .i64 0, .int .i64 0, .int .i64 0, .int .i64 0, .int .i64 0, .int .i64 0, .int .i64 0]) ?_ 6 _ rfl; refine blk_put (cs := #[.bool m, .int .i64 0, .int .i64 0, .int .i64 0, .int .i64 0, .int .i64 0, .int .i64 0, .int .i64 0, .int .i64 0]) ?_ 5 _ rfl; refine blk_put (cs := #[.bool m, .int .i64 0, .int .i64 0, .int .i64 0, .int .i64 0, .int .i64 0, .int .i64 0, .int .i64 0, .int .i64 0]) ?_ 4 _ rfl; refine blk_put (cs := #[.bool m, .int .i64 0, .int .i64 0, .int .i64 0, .int .i64 0, .int .i64 0, .int .i64 0, .int .i64 0, .int .i64 0]) ?_ 3 _ rfl; refine blk_put (cs := #[.bool m, .int .i64 0, .int .i64 0, .int .i64 0, .int .i64 0, .int .i64 0, .int .i64 0, .int .i64 0, .int .i64 0]) ?_ 2 _ rfl; refine blk_put (cs := #[.bool m, .int .i64 0, .int .i64 0, .int .i64 0, .int .i64 0, .int .i64 0, .int .i64 0, .int .i64 0, .int .i64 0]) ?_ 1 _ rfl; refine blk_put (cs := #[.bool false, .int .i64 0, .int .i64 0, .int .i64 0, .int .i64 0, .int .i64 0, .int .i64 0, .int .i64 0, .int .i64 0]) ?_ 0 _ rfl; exact BKg5.out⟩
  have m_ : Aside0 ((((((((((W3.setCell ⟨g5, 0, none⟩ (.bool m)).setCell ⟨g5, 1, none⟩ (.int .i64 0)).setCell ⟨g5, 2, none⟩ (.int .i64 0)).setCell ⟨g5, 3, none⟩ (.int .i64 0)).setCell ⟨g5, 4, none⟩ (.int .i64 0)).setCell ⟨g5, 5, none⟩ (.int .i64 0)).setCell ⟨g5, 6, none⟩ (.int .i64 0)).setCell ⟨g5, 7, none⟩ (.int .i64 0)).setCell ⟨g5, 8, none⟩ (.int .i64 0)).heap[g2]? = some (.cells (bigA m a) 60 (0, 0))) := ⟨(blk_far (blk_far (blk_far (blk_far (blk_far (blk_far (blk_far (blk_far (blk_far BKg2.out NBg2_g5 _) NBg2_g5 _) NBg2_g5 _) NBg2_g5 _) NBg2_g5 _) NBg2_g5 _) NBg2_g5 _) NBg2_g5 _) NBg2_g5 _)⟩
  clear BKg2; have BKg2 := m_; clear m_
  have m_ : Aside0 ((((((((((W3.setCell ⟨g5, 0, none⟩ (.bool m)).setCell ⟨g5, 1, none⟩ (.int .i64 0)).setCell ⟨g5, 2, none⟩ (.int .i64 0)).setCell ⟨g5, 3, none⟩ (.int .i64 0)).setCell ⟨g5, 4, none⟩ (.int .i64 0)).setCell ⟨g5, 5, none⟩ (.int .i64 0)).setCell ⟨g5, 6, none⟩ (.int .i64 0)).setCell ⟨g5, 7, none⟩ (.int .i64 0)).setCell ⟨g5, 8, none⟩ (.int .i64 0)).heap[g3]? = some (.cells #[.bool false, .int .i64 0, .int .i64 0, .int .i64 0, .int .i64 0, .int .i64 0, .int .i64 0, .int .i64 0, .int .i64 0] 60 (0, 0))) := ⟨(blk_far (blk_far (blk_far (blk_far (blk_far (blk_far (blk_far (blk_far (blk_far BKg3.out NBg3_g5 _) NBg3_g5 _) NBg3_g5 _) NBg3_g5 _) NBg3_g5 _) NBg3_g5 _) NBg3_g5 _) NBg3_g5 _) NBg3_g5 _)⟩
  clear BKg3; have BKg3 := m_; clear m_
  have b_ : Aside0 (Below w.heap.size w (((((((((W3.setCell ⟨g5, 0, none⟩ (.bool m)).setCell ⟨g5, 1, none⟩ (.int .i64 0)).setCell ⟨g5, 2, none⟩ (.int .i64 0)).setCell ⟨g5, 3, none⟩ (.int .i64 0)).setCell ⟨g5, 4, none⟩ (.int .i64 0)).setCell ⟨g5, 5, none⟩ (.int .i64 0)).setCell ⟨g5, 6, none⟩ (.int .i64 0)).setCell ⟨g5, 7, none⟩ (.int .i64 0)).setCell ⟨g5, 8, none⟩ (.int .i64 0))) := ⟨(below_set (below_set (below_set (below_set (below_set (below_set (below_set (below_set (below_set HB.out GEg5.out) GEg5.out) GEg5.out) GEg5.out) GEg5.out) GEg5.out) GEg5.out) GEg5.out) GEg5.out)⟩
  clear BKg5 HB; have BKg5 := n_; have HB := b_; clear n_ b_
  clear hcg2_0 hfg2_0
  clear hcg2_1 hfg2_1
  clear hcg2_2 hfg2_2
  clear hcg2_3 hfg2_3
  clear hcg2_4 hfg2_4
  clear hcg2_5 hfg2_5
  clear hcg2_6 hfg2_6
  clear hcg2_7 hfg2_7
  clear hcg2_8 hfg2_8
  clear hcg3_0 hfg3_0
  clear hcg3_1 hfg3_1
  clear hcg3_2 hfg3_2
  clear hcg3_3 hfg3_3
  clear hcg3_4 hfg3_4
  clear hcg3_5 hfg3_5
  clear hcg3_6 hfg3_6
  clear hcg3_7 hfg3_7
  clear hcg3_8 hfg3_8
  clear hcg5_0 hfg5_0
  clear hcg5_1 hfg5_1
  clear hcg5_2 hfg5_2
  clear hcg5_3 hfg5_3
  clear hcg5_4 hfg5_4
  clear hcg5_5 hfg5_5
  clear hcg5_6 hfg5_6
  clear hcg5_7 hfg5_7
  clear hcg5_8 hfg5_8
  generalize (((((((((W3.setCell ⟨g5, 0, none⟩ (.bool m)).setCell ⟨g5, 1, none⟩ (.int .i64 0)).setCell ⟨g5, 2, none⟩ (.int .i64 0)).setCell ⟨g5, 3, none⟩ (.int .i64 0)).setCell ⟨g5, 4, none⟩ (.int .i64 0)).setCell ⟨g5, 5, none⟩ (.int .i64 0)).setCell ⟨g5, 6, none⟩ (.int .i64 0)).setCell ⟨g5, 7, none⟩ (.int .i64 0)).setCell ⟨g5, 8, none⟩ (.int .i64 0)) = W4 at *
  have hcg2_0 : W4.cell? ⟨g2, 0, none⟩ = some (.bool m) := (blk_cell BKg2.out 0).trans rfl
  have hfg2_0 := blk_frozen BKg2.out 0
  have hcg2_1 : W4.cell? ⟨g2, 1, none⟩ = some (.int .i64 (a 0)) := (blk_cell BKg2.out 1).trans rfl
  have hfg2_1 := blk_frozen BKg2.out 1
  have hcg2_2 : W4.cell? ⟨g2, 2, none⟩ = some (.int .i64 (a 1)) := (blk_cell BKg2.out 2).trans rfl
  have hfg2_2 := blk_frozen BKg2.out 2
  have hcg2_3 : W4.cell? ⟨g2, 3, none⟩ = some (.int .i64 (a 2)) := (blk_cell BKg2.out 3).trans rfl
  have hfg2_3 := blk_frozen BKg2.out 3
  have hcg2_4 : W4.cell? ⟨g2, 4, none⟩ = some (.int .i64 (a 3)) := (blk_cell BKg2.out 4).trans rfl
  have hfg2_4 := blk_frozen BKg2.out 4
  have hcg2_5 : W4.cell? ⟨g2, 5, none⟩ = some (.int .i64 (a 4)) := (blk_cell BKg2.out 5).trans rfl
  have hfg2_5 := blk_frozen BKg2.out 5
  have hcg2_6 : W4.cell? ⟨g2, 6, none⟩ = some (.int .i64 (a 5)) := (blk_cell BKg2.out 6).trans rfl
  have hfg2_6 := blk_frozen BKg2.out 6
  have hcg2_7 : W4.cell? ⟨g2, 7, none⟩ = some (.int .i64 (a 6)) := (blk_cell BKg2.out 7).trans rfl
  have hfg2_7 := blk_frozen BKg2.out 7
  have hcg2_8 : W4.cell? ⟨g2, 8, none⟩ = some (.int .i64 (a 7)) := (blk_cell BKg2.out 8).trans rfl
  have hfg2_8 := blk_frozen BKg2.out 8
  have hcg3_0 : W4.cell? ⟨g3, 0, none⟩ = some (.bool false) := (blk_cell BKg3.out 0).trans rfl
  have hfg3_0 := blk_frozen BKg3.out 0
  have hcg3_1 : W4.cell? ⟨g3, 1, none⟩ = some (.int .i64 0) := (blk_cell BKg3.out 1).trans rfl
  have hfg3_1 := blk_frozen BKg3.out 1
  have hcg3_2 : W4.cell? ⟨g3, 2, none⟩ = some (.int .i64 0) := (blk_cell BKg3.out 2).trans rfl
  have hfg3_2 := blk_frozen BKg3.out 2
  have hcg3_3 : W4.cell? ⟨g3, 3, none⟩ = some (.int .i64 0) := (blk_cell BKg3.out 3).trans rfl
  have hfg3_3 := blk_frozen BKg3.out 3
  have hcg3_4 : W4.cell? ⟨g3, 4, none⟩ = some (.int .i64 0) := (blk_cell BKg3.out 4).trans rfl
  have hfg3_4 := blk_frozen BKg3.out 4
  have hcg3_5 : W4.cell? ⟨g3, 5, none⟩ = some (.int .i64 0) := (blk_cell BKg3.out 5).trans rfl
  have hfg3_5 := blk_frozen BKg3.out 5
  have hcg3_6 : W4.cell? ⟨g3, 6, none⟩ = some (.int .i64 0) := (blk_cell BKg3.out 6).trans rfl
  have hfg3_6 := blk_frozen BKg3.out 6
  have hcg3_7 : W4.cell? ⟨g3, 7, none⟩ = some (.int .i64 0) := (blk_cell BKg3.out 7).trans rfl
  have hfg3_7 := blk_frozen BKg3.out 7
  have hcg3_8 : W4.cell? ⟨g3, 8, none⟩ = some (.int .i64 0) := (blk_cell BKg3.out 8).trans rfl
  have hfg3_8 := blk_frozen BKg3.out 8
  have hcg5_0 : W4.cell? ⟨g5, 0, none⟩ = some (.bool m) := (blk_cell BKg5.out 0).trans rfl
  have hfg5_0 := blk_frozen BKg5.out 0
  have hcg5_1 : W4.cell? ⟨g5, 1, none⟩ = some (.int .i64 0) := (blk_cell BKg5.out 1).trans rfl
  have hfg5_1 := blk_frozen BKg5.out 1
  have hcg5_2 : W4.cell? ⟨g5, 2, none⟩ = some (.int .i64 0) := (blk_cell BKg5.out 2).trans rfl
  have hfg5_2 := blk_frozen BKg5.out 2
  have hcg5_3 : W4.cell? ⟨g5, 3, none⟩ = some (.int .i64 0) := (blk_cell BKg5.out 3).trans rfl
  have hfg5_3 := blk_frozen BKg5.out 3
  have hcg5_4 : W4.cell? ⟨g5, 4, none⟩ = some (.int .i64 0) := (blk_cell BKg5.out 4).trans rfl
  have hfg5_4 := blk_frozen BKg5.out 4
  have hcg5_5 : W4.cell? ⟨g5, 5, none⟩ = some (.int .i64 0) := (blk_cell BKg5.out 5).trans rfl
  have hfg5_5 := blk_frozen BKg5.out 5
  have hcg5_6 : W4.cell? ⟨g5, 6, none⟩ = some (.int .i64 0) := (blk_cell BKg5.out 6).trans rfl
  have hfg5_6 := blk_frozen BKg5.out 6
  have hcg5_7 : W4.cell? ⟨g5, 7, none⟩ = some (.int .i64 0) := (blk_cell BKg5.out 7).trans rfl
  have hfg5_7 := blk_frozen BKg5.out 7
  have hcg5_8 : W4.cell? ⟨g5, 8, none⟩ = some (.int .i64 0) := (blk_cell BKg5.out 8).trans rfl
  have hfg5_8 := blk_frozen BKg5.out 8
  have hm5 : W4.cell? ⟨g5, 0, none⟩ = W4.cell? ⟨g5, 0, none⟩ := rfl; clear hm5
  go_loopw [6] (fun vi wr => ∃ (i : Nat) (D : Nat → Int), vi = .int .i64 i ∧ Aside0 (SR a (shf a (-2)) i D) ∧ Aside0 (wr.heap[g5]? = some (.cells (bigA m D) 60 (0, 0))) ∧ Aside0 (wr.heap[g2]? = some (.cells (bigA m a) 60 (0, 0))) ∧ Aside0 (wr.heap[g3]? = some (.cells #[.bool false, .int .i64 0, .int .i64 0, .int .i64 0, .int .i64 0, .int .i64 0, .int .i64 0, .int .i64 0, .int .i64 0] 60 (0, 0))) ∧ Aside0 (Below w.heap.size w wr)) (fun vi _ => 8 - (intOf vi).toNat)
  case atStart => exact ⟨0, (fun _ => 0), rfl, ⟨SR.start a _⟩, BKg5, BKg2, BKg3, HB⟩
  case round =>
    clear BKg2 BKg3 BKg5 HB hcg2_0 hfg2_0 hcg2_1 hfg2_1 hcg2_2 hfg2_2 hcg2_3 hfg2_3 hcg2_4 hfg2_4 hcg2_5 hfg2_5 hcg2_6 hfg2_6 hcg2_7 hfg2_7 hcg2_8 hfg2_8 hcg3_0 hfg3_0 hcg3_1 hfg3_1 hcg3_2 hfg3_2 hcg3_3 hfg3_3 hcg3_4 hfg3_4 hcg3_5 hfg3_5 hcg3_6 hfg3_6 hcg3_7 hfg3_7 hcg3_8 hfg3_8 hcg5_0 hfg5_0 hcg5_1 hfg5_1 hcg5_2 hfg5_2 hcg5_3 hfg5_3 hcg5_4 hfg5_4 hcg5_5 hfg5_5 hcg5_6 hfg5_6 hcg5_7 hfg5_7 hcg5_8 hfg5_8
    obtain ⟨i, D, rfl, HR, BKg5, BKg2, BKg3, HB⟩ := hrel
    have hi8 := HR.out.i8
    by_cases hlt : i < 8
    · by_cases hs : i < 6
      · obtain ⟨x, hx⟩ : ∃ x, x = a (i + 2) := ⟨_, rfl⟩
        have c5 : wr.cell? ⟨g5, 1 + i, none⟩ = some (.int .i64 (D i)) := (blk_cell BKg5.out (1 + i)).trans (big_get m D (by omega))
        have f5 := blk_frozen BKg5.out (1 + i)
        have c2 : wr.cell? ⟨g2, 1 + (i + 2), none⟩ = some (.int .i64 x) := (blk_cell BKg2.out (1 + (i + 2))).trans ((big_get m a (by omega)).trans (by rw [hx]))
        have HX := Lib.hid (show shf a (-2) i = x from by rw [hx]; exact shf_m2 a hs)
        clear hx
        go_wp2
        exact ⟨⟨i + 1, upd D i x, rfl, ⟨by rw [← HX.out]; exact HR.out.set hlt⟩, ⟨blk_put BKg5.out _ _ (big_set _ D (by omega) _)⟩, ⟨blk_far BKg2.out NBg2_g5 _⟩, ⟨blk_far BKg3.out NBg3_g5 _⟩, ⟨below_set HB.out GEg5.out⟩⟩, by simp [intOf]; omega⟩
      · have HX := Lib.hid (show shf a (-2) i = 0 from shf_m2' a (by omega))
        go_wp2
        exact ⟨⟨i + 1, D, rfl, ⟨HR.out.skip hlt HX.out⟩, BKg5, BKg2, BKg3, HB⟩, by simp [intOf]; omega⟩
    · have e : i = 8 := by omega
      subst e
      have hd := HR.out.done
      have hrep : Rep D (V / 4294967296) := shift_down ha (fun j hj => (hd j (by omega)).trans (shf_m2 a hj)) ((hd 6 (by omega)).trans (shf_m2' a (by omega))) ((hd 7 (by omega)).trans (shf_m2' a (by omega)))
      clear hd
      have hcg5_0 : wr.cell? ⟨g5, 0, none⟩ = some (.bool m) := (blk_cell BKg5.out 0).trans rfl; have hfg5_0 := blk_frozen BKg5.out 0
      have hcg5_1 : wr.cell? ⟨g5, 1, none⟩ = some (.int .i64 (D 0)) := (blk_cell BKg5.out 1).trans rfl; have hfg5_1 := blk_frozen BKg5.out 1
      have hcg5_2 : wr.cell? ⟨g5, 2, none⟩ = some (.int .i64 (D 1)) := (blk_cell BKg5.out 2).trans rfl; have hfg5_2 := blk_frozen BKg5.out 2
      have hcg5_3 : wr.cell? ⟨g5, 3, none⟩ = some (.int .i64 (D 2)) := (blk_cell BKg5.out 3).trans rfl; have hfg5_3 := blk_frozen BKg5.out 3
      have hcg5_4 : wr.cell? ⟨g5, 4, none⟩ = some (.int .i64 (D 3)) := (blk_cell BKg5.out 4).trans rfl; have hfg5_4 := blk_frozen BKg5.out 4
      have hcg5_5 : wr.cell? ⟨g5, 5, none⟩ = some (.int .i64 (D 4)) := (blk_cell BKg5.out 5).trans rfl; have hfg5_5 := blk_frozen BKg5.out 5
      have hcg5_6 : wr.cell? ⟨g5, 6, none⟩ = some (.int .i64 (D 5)) := (blk_cell BKg5.out 6).trans rfl; have hfg5_6 := blk_frozen BKg5.out 6
      have hcg5_7 : wr.cell? ⟨g5, 7, none⟩ = some (.int .i64 (D 6)) := (blk_cell BKg5.out 7).trans rfl; have hfg5_7 := blk_frozen BKg5.out 7
      have hcg5_8 : wr.cell? ⟨g5, 8, none⟩ = some (.int .i64 (D 7)) := (blk_cell BKg5.out 8).trans rfl; have hfg5_8 := blk_frozen BKg5.out 8
      have hcg3_0 : wr.cell? ⟨g3, 0, none⟩ = some (.bool false) := (blk_cell BKg3.out 0).trans rfl; have hfg3_0 := blk_frozen BKg3.out 0
      have hcg3_1 : wr.cell? ⟨g3, 1, none⟩ = some (.int .i64 0) := (blk_cell BKg3.out 1).trans rfl; have hfg3_1 := blk_frozen BKg3.out 1
      have hcg3_2 : wr.cell? ⟨g3, 2, none⟩ = some (.int .i64 0) := (blk_cell BKg3.out 2).trans rfl; have hfg3_2 := blk_frozen BKg3.out 2
      have hcg3_3 : wr.cell? ⟨g3, 3, none⟩ = some (.int .i64 0) := (blk_cell BKg3.out 3).trans rfl; have hfg3_3 := blk_frozen BKg3.out 3
      have hcg3_4 : wr.cell? ⟨g3, 4, none⟩ = some (.int .i64 0) := (blk_cell BKg3.out 4).trans rfl; have hfg3_4 := blk_frozen BKg3.out 4
      have hcg3_5 : wr.cell? ⟨g3, 5, none⟩ = some (.int .i64 0) := (blk_cell BKg3.out 5).trans rfl; have hfg3_5 := blk_frozen BKg3.out 5
      have hcg3_6 : wr.cell? ⟨g3, 6, none⟩ = some (.int .i64 0) := (blk_cell BKg3.out 6).trans rfl; have hfg3_6 := blk_frozen BKg3.out 6
      have hcg3_7 : wr.cell? ⟨g3, 7, none⟩ = some (.int .i64 0) := (blk_cell BKg3.out 7).trans rfl; have hfg3_7 := blk_frozen BKg3.out 7
      have hcg3_8 : wr.cell? ⟨g3, 8, none⟩ = some (.int .i64 0) := (blk_cell BKg3.out 8).trans rfl; have hfg3_8 := blk_frozen BKg3.out 8
      go_wp2
      refine bodyPost_ret (results_cell_row rfl _ _ g3 60 #[.bool m, .int .i64 (D 0), .int .i64 (D 1), .int .i64 (D 2), .int .i64 (D 3), .int .i64 (D 4), .int .i64 (D 5), .int .i64 (D 6), .int .i64 (D 7)] (0, 0) _ rfl (by (with_reducible repeat (first | refine blk_drewN ?_ _ | refine blk_drew ?_ | refine blk_alloc ?_ _)); refine blk_put (cs := #[.bool m, .int .i64 (D 0), .int .i64 (D 1), .int .i64 (D 2), .int .i64 (D 3), .int .i64 (D 4), .int .i64 (D 5), .int .i64 (D 6), .int .i64 0]) ?_ 8 _ rfl; (with_reducible repeat (first | refine blk_drewN ?_ _ | refine blk_drew ?_ | refine blk_alloc ?_ _)); refine blk_put (cs := #[.bool m, .int .i64 (D 0), .int .i64 (D 1), .int .i64 (D 2), .int .i64 (D 3), .int .i64 (D 4), .int .i64 (D 5), .int .i64 0, .int .i64 0]) ?_ 7 _ rfl; (with_reducible repeat (first | refine blk_drewN ?_ _ | refine blk_drew ?_ | refine blk_alloc ?_ _)); refine blk_put (cs := #[.bool m, .int .i64 (D 0), .int .i64 (D 1), .int .i64 (D 2), .int .i64 (D 3), .int .i64 (D 4), .int .i64 0, .int .i64 0, .int .i64 0]) ?_ 6 _ rfl; (with_reducible repeat (first | refine blk_drewN ?_ _ | refine blk_drew ?_ | refine blk_alloc ?_ _)); refine blk_put (cs := #[.bool m, .int .i64 (D 0), .int .i64 (D 1), .int .i64 (D 2), .int .i64 (D 3), .int .i64 0, .int .i64 0, .int .i64 0, .int .i64 0]) ?_ 5 _ rfl; (with_reducible repeat (first | refine blk_drewN ?_ _ | refine blk_drew ?_ | refine blk_alloc ?_ _)); refine blk_put (cs := #[.bool m, .int .i64 (D 0), .int .i64 (D 1), .int .i64 (D 2), .int .i64 0, .int .i64 0, .int .i64 0, .int .i64 0, .int .i64 0]) ?_ 4 _ rfl; (with_reducible repeat (first | refine blk_drewN ?_ _ | refine blk_drew ?_ | refine blk_alloc ?_ _)); refine blk_put (cs := #[.bool m, .int .i64 (D 0), .int .i64 (D 1), .int .i64 0, .int .i64 0, .int .i64 0, .int .i64 0, .int .i64 0, .int .i64 0]) ?_ 3 _ rfl; (with_reducible repeat (first | refine blk_drewN ?_ _ | refine blk_drew ?_ | refine blk_alloc ?_ _)); refine blk_put (cs := #[.bool m, .int .i64 (D 0), .int .i64 0, .int .i64 0, .int .i64 0, .int .i64 0, .int .i64 0, .int .i64 0, .int .i64 0]) ?_ 2 _ rfl; (with_reducible repeat (first | refine blk_drewN ?_ _ | refine blk_drew ?_ | refine blk_alloc ?_ _)); refine blk_put (cs := #[.bool m, .int .i64 0, .int .i64 0, .int .i64 0, .int .i64 0, .int .i64 0, .int .i64 0, .int .i64 0, .int .i64 0]) ?_ 1 _ rfl; (with_reducible repeat (first | refine blk_drewN ?_ _ | refine blk_drew ?_ | refine blk_alloc ?_ _)); refine blk_put (cs := #[.bool false, .int .i64 0, .int .i64 0, .int .i64 0, .int .i64 0, .int .i64 0, .int .i64 0, .int .i64 0, .int .i64 0]) ?_ 0 _ rfl; (with_reducible repeat (first | refine blk_drewN ?_ _ | refine blk_drew ?_ | refine blk_alloc ?_ _)); exact BKg3.out) Tryd.underlying60 rfl (by kernel_rfl)) rfl ?_
      exact ⟨D, rfl, hrep, by repeat (first | (with_reducible first | exact HB.out | apply below_alloc | apply pw_below_drewN | apply below_drew1 | refine below_set ?_ GEg3.out) | exact HB.out)⟩
set_option maxHeartbeats 8000000 in
set_option maxRecDepth 100000 in
theorem shift_p2 (m : Bool) (a : Nat → Int) (V : Int) (w : World) (ha : Rep a V) (hV : V < 79228162514264337593543950336) :
    Calls Tryd.prog 48 #[.agg (bigA m a), .int .i64 2] w
      fun e w' => ∃ D, e = .returned (.agg (bigA m D)) ∧ Rep D (V * 4294967296) ∧ Below w.heap.size w w' := by
  have HB := Aside0.mk (Below.refl w.heap.size w)
  go_enter Tryd.func48, Tryd.ntmps48
  go_wp2_with (first | ((with_reducible refine gate_dst (N := 2) rfl ?_); refine box_event ?hg (N := 2) ?hd (cs := (bigA m a)) (t := 60) ?hr ?_; (case hd => rfl); (case hg => rfl); (case hr => first | (go_simp; done) | (go_simp; rfl)); intro g2 hg_ W1 hbox_ hb_; have GEg2 := Aside0.mk ((by rw [hg_]; exact (below_size HB.out)) : w.heap.size ≤ g2); clear hg_; have n_ := Aside0.mk (below_step HB.out hb_); clear HB; have HB := n_; clear n_; have BKg2 := Aside0.mk hbox_; clear hbox_ hb_; have hcg2_0 : W1.cell? ⟨g2, 0, none⟩ = some (.bool m) := (blk_cell BKg2.out 0).trans rfl; have hfg2_0 := blk_frozen BKg2.out 0; have hcg2_1 : W1.cell? ⟨g2, 1, none⟩ = some (.int .i64 (a 0)) := (blk_cell BKg2.out 1).trans rfl; have hfg2_1 := blk_frozen BKg2.out 1; have hcg2_2 : W1.cell? ⟨g2, 2, none⟩ = some (.int .i64 (a 1)) := (blk_cell BKg2.out 2).trans rfl; have hfg2_2 := blk_frozen BKg2.out 2; have hcg2_3 : W1.cell? ⟨g2, 3, none⟩ = some (.int .i64 (a 2)) := (blk_cell BKg2.out 3).trans rfl; have hfg2_3 := blk_frozen BKg2.out 3; have hcg2_4 : W1.cell? ⟨g2, 4, none⟩ = some (.int .i64 (a 3)) := (blk_cell BKg2.out 4).trans rfl; have hfg2_4 := blk_frozen BKg2.out 4; have hcg2_5 : W1.cell? ⟨g2, 5, none⟩ = some (.int .i64 (a 4)) := (blk_cell BKg2.out 5).trans rfl; have hfg2_5 := blk_frozen BKg2.out 5; have hcg2_6 : W1.cell? ⟨g2, 6, none⟩ = some (.int .i64 (a 5)) := (blk_cell BKg2.out 6).trans rfl; have hfg2_6 := blk_frozen BKg2.out 6; have hcg2_7 : W1.cell? ⟨g2, 7, none⟩ = some (.int .i64 (a 6)) := (blk_cell BKg2.out 7).trans rfl; have hfg2_7 := blk_frozen BKg2.out 7; have hcg2_8 : W1.cell? ⟨g2, 8, none⟩ = some (.int .i64 (a 7)) := (blk_cell BKg2.out 8).trans rfl; have hfg2_8 := blk_frozen BKg2.out 8) | ((with_reducible refine gate_dst (N := 4) rfl ?_); refine box_event ?hg (N := 4) ?hd (cs := #[.bool false, .int .i64 0, .int .i64 0, .int .i64 0, .int .i64 0, .int .i64 0, .int .i64 0, .int .i64 0, .int .i64 0]) (t := 60) ?hr ?_; (case hd => rfl); (case hg => rfl); (case hr => first | (go_simp; done) | (go_simp; rfl)); intro g3 hg_ W2 hbox_ hb_; have GEg3 := Aside0.mk ((by rw [hg_]; exact (below_size HB.out)) : w.heap.size ≤ g3); have NBg2_g3 : g2 ≠ g3 := (by rw [hg_]; exact Nat.ne_of_lt (blk_lt BKg2.out)); have NBg3_g2 : g3 ≠ g2 := Ne.symm NBg2_g3; clear hg_; have n_ := Aside0.mk (blk_below BKg2.out hb_); clear BKg2; have BKg2 := n_; clear n_; clear hcg2_0 hfg2_0; clear hcg2_1 hfg2_1; clear hcg2_2 hfg2_2; clear hcg2_3 hfg2_3; clear hcg2_4 hfg2_4; clear hcg2_5 hfg2_5; clear hcg2_6 hfg2_6; clear hcg2_7 hfg2_7; clear hcg2_8 hfg2_8; have n_ := Aside0.mk (below_step HB.out hb_); clear HB; have HB := n_; clear n_; have BKg3 := Aside0.mk hbox_; clear hbox_ hb_; have hcg2_0 : W2.cell? ⟨g2, 0, none⟩ = some (.bool m) := (blk_cell BKg2.out 0).trans rfl; have hfg2_0 := blk_frozen BKg2.out 0; have hcg2_1 : W2.cell? ⟨g2, 1, none⟩ = some (.int .i64 (a 0)) := (blk_cell BKg2.out 1).trans rfl; have hfg2_1 := blk_frozen BKg2.out 1; have hcg2_2 : W2.cell? ⟨g2, 2, none⟩ = some (.int .i64 (a 1)) := (blk_cell BKg2.out 2).trans rfl; have hfg2_2 := blk_frozen BKg2.out 2; have hcg2_3 : W2.cell? ⟨g2, 3, none⟩ = some (.int .i64 (a 2)) := (blk_cell BKg2.out 3).trans rfl; have hfg2_3 := blk_frozen BKg2.out 3; have hcg2_4 : W2.cell? ⟨g2, 4, none⟩ = some (.int .i64 (a 3)) := (blk_cell BKg2.out 4).trans rfl; have hfg2_4 := blk_frozen BKg2.out 4; have hcg2_5 : W2.cell? ⟨g2, 5, none⟩ = some (.int .i64 (a 4)) := (blk_cell BKg2.out 5).trans rfl; have hfg2_5 := blk_frozen BKg2.out 5; have hcg2_6 : W2.cell? ⟨g2, 6, none⟩ = some (.int .i64 (a 5)) := (blk_cell BKg2.out 6).trans rfl; have hfg2_6 := blk_frozen BKg2.out 6; have hcg2_7 : W2.cell? ⟨g2, 7, none⟩ = some (.int .i64 (a 6)) := (blk_cell BKg2.out 7).trans rfl; have hfg2_7 := blk_frozen BKg2.out 7; have hcg2_8 : W2.cell? ⟨g2, 8, none⟩ = some (.int .i64 (a 7)) := (blk_cell BKg2.out 8).trans rfl; have hfg2_8 := blk_frozen BKg2.out 8; have hcg3_0 : W2.cell? ⟨g3, 0, none⟩ = some (.bool false) := (blk_cell BKg3.out 0).trans rfl; have hfg3_0 := blk_frozen BKg3.out 0; have hcg3_1 : W2.cell? ⟨g3, 1, none⟩ = some (.int .i64 0) := (blk_cell BKg3.out 1).trans rfl; have hfg3_1 := blk_frozen BKg3.out 1; have hcg3_2 : W2.cell? ⟨g3, 2, none⟩ = some (.int .i64 0) := (blk_cell BKg3.out 2).trans rfl; have hfg3_2 := blk_frozen BKg3.out 2; have hcg3_3 : W2.cell? ⟨g3, 3, none⟩ = some (.int .i64 0) := (blk_cell BKg3.out 3).trans rfl; have hfg3_3 := blk_frozen BKg3.out 3; have hcg3_4 : W2.cell? ⟨g3, 4, none⟩ = some (.int .i64 0) := (blk_cell BKg3.out 4).trans rfl; have hfg3_4 := blk_frozen BKg3.out 4; have hcg3_5 : W2.cell? ⟨g3, 5, none⟩ = some (.int .i64 0) := (blk_cell BKg3.out 5).trans rfl; have hfg3_5 := blk_frozen BKg3.out 5; have hcg3_6 : W2.cell? ⟨g3, 6, none⟩ = some (.int .i64 0) := (blk_cell BKg3.out 6).trans rfl; have hfg3_6 := blk_frozen BKg3.out 6; have hcg3_7 : W2.cell? ⟨g3, 7, none⟩ = some (.int .i64 0) := (blk_cell BKg3.out 7).trans rfl; have hfg3_7 := blk_frozen BKg3.out 7; have hcg3_8 : W2.cell? ⟨g3, 8, none⟩ = some (.int .i64 0) := (blk_cell BKg3.out 8).trans rfl; have hfg3_8 := blk_frozen BKg3.out 8) | ((with_reducible refine gate_dst (N := 5) rfl ?_); refine box_event ?hg (N := 5) ?hd (cs := #[.bool false, .int .i64 0, .int .i64 0, .int .i64 0, .int .i64 0, .int .i64 0, .int .i64 0, .int .i64 0, .int .i64 0]) (t := 60) ?hr ?_; (case hd => rfl); (case hg => rfl); (case hr => first | (go_simp; done) | (go_simp; rfl)); intro g5 hg_ W3 hbox_ hb_; have GEg5 := Aside0.mk ((by rw [hg_]; exact (below_size HB.out)) : w.heap.size ≤ g5); have NBg2_g5 : g2 ≠ g5 := (by rw [hg_]; exact Nat.ne_of_lt (blk_lt BKg2.out)); have NBg5_g2 : g5 ≠ g2 := Ne.symm NBg2_g5; have NBg3_g5 : g3 ≠ g5 := (by rw [hg_]; exact Nat.ne_of_lt (blk_lt BKg3.out)); have NBg5_g3 : g5 ≠ g3 := Ne.symm NBg3_g5; clear hg_; have n_ := Aside0.mk (blk_below BKg2.out hb_); clear BKg2; have BKg2 := n_; clear n_; clear hcg2_0 hfg2_0; clear hcg2_1 hfg2_1; clear hcg2_2 hfg2_2; clear hcg2_3 hfg2_3; clear hcg2_4 hfg2_4; clear hcg2_5 hfg2_5; clear hcg2_6 hfg2_6; clear hcg2_7 hfg2_7; clear hcg2_8 hfg2_8; have n_ := Aside0.mk (blk_below BKg3.out hb_); clear BKg3; have BKg3 := n_; clear n_; clear hcg3_0 hfg3_0; clear hcg3_1 hfg3_1; clear hcg3_2 hfg3_2; clear hcg3_3 hfg3_3; clear hcg3_4 hfg3_4; clear hcg3_5 hfg3_5; clear hcg3_6 hfg3_6; clear hcg3_7 hfg3_7; clear hcg3_8 hfg3_8; have n_ := Aside0.mk (below_step HB.out hb_); clear HB; have HB := n_; clear n_; have BKg5 := Aside0.mk hbox_; clear hbox_ hb_; have hcg2_0 : W3.cell? ⟨g2, 0, none⟩ = some (.bool m) := (blk_cell BKg2.out 0).trans rfl; have hfg2_0 := blk_frozen BKg2.out 0; have hcg2_1 : W3.cell? ⟨g2, 1, none⟩ = some (.int .i64 (a 0)) := (blk_cell BKg2.out 1).trans rfl; have hfg2_1 := blk_frozen BKg2.out 1; have hcg2_2 : W3.cell? ⟨g2, 2, none⟩ = some (.int .i64 (a 1)) := (blk_cell BKg2.out 2).trans rfl; have hfg2_2 := blk_frozen BKg2.out 2; have hcg2_3 : W3.cell? ⟨g2, 3, none⟩ = some (.int .i64 (a 2)) := (blk_cell BKg2.out 3).trans rfl; have hfg2_3 := blk_frozen BKg2.out 3; have hcg2_4 : W3.cell? ⟨g2, 4, none⟩ = some (.int .i64 (a 3)) := (blk_cell BKg2.out 4).trans rfl; have hfg2_4 := blk_frozen BKg2.out 4; have hcg2_5 : W3.cell? ⟨g2, 5, none⟩ = some (.int .i64 (a 4)) := (blk_cell BKg2.out 5).trans rfl; have hfg2_5 := blk_frozen BKg2.out 5; have hcg2_6 : W3.cell? ⟨g2, 6, none⟩ = some (.int .i64 (a 5)) := (blk_cell BKg2.out 6).trans rfl; have hfg2_6 := blk_frozen BKg2.out 6; have hcg2_7 : W3.cell? ⟨g2, 7, none⟩ = some (.int .i64 (a 6)) := (blk_cell BKg2.out 7).trans rfl; have hfg2_7 := blk_frozen BKg2.out 7; have hcg2_8 : W3.cell? ⟨g2, 8, none⟩ = some (.int .i64 (a 7)) := (blk_cell BKg2.out 8).trans rfl; have hfg2_8 := blk_frozen BKg2.out 8; have hcg3_0 : W3.cell? ⟨g3, 0, none⟩ = some (.bool false) := (blk_cell BKg3.out 0).trans rfl; have hfg3_0 := blk_frozen BKg3.out 0; have hcg3_1 : W3.cell? ⟨g3, 1, none⟩ = some (.int .i64 0) := (blk_cell BKg3.out 1).trans rfl; have hfg3_1 := blk_frozen BKg3.out 1; have hcg3_2 : W3.cell? ⟨g3, 2, none⟩ = some (.int .i64 0) := (blk_cell BKg3.out 2).trans rfl; have hfg3_2 := blk_frozen BKg3.out 2; have hcg3_3 : W3.cell? ⟨g3, 3, none⟩ = some (.int .i64 0) := (blk_cell BKg3.out 3).trans rfl; have hfg3_3 := blk_frozen BKg3.out 3; have hcg3_4 : W3.cell? ⟨g3, 4, none⟩ = some (.int .i64 0) := (blk_cell BKg3.out 4).trans rfl; have hfg3_4 := blk_frozen BKg3.out 4; have hcg3_5 : W3.cell? ⟨g3, 5, none⟩ = some (.int .i64 0) := (blk_cell BKg3.out 5).trans rfl; have hfg3_5 := blk_frozen BKg3.out 5; have hcg3_6 : W3.cell? ⟨g3, 6, none⟩ = some (.int .i64 0) := (blk_cell BKg3.out 6).trans rfl; have hfg3_6 := blk_frozen BKg3.out 6; have hcg3_7 : W3.cell? ⟨g3, 7, none⟩ = some (.int .i64 0) := (blk_cell BKg3.out 7).trans rfl; have hfg3_7 := blk_frozen BKg3.out 7; have hcg3_8 : W3.cell? ⟨g3, 8, none⟩ = some (.int .i64 0) := (blk_cell BKg3.out 8).trans rfl; have hfg3_8 := blk_frozen BKg3.out 8; have hcg5_0 : W3.cell? ⟨g5, 0, none⟩ = some (.bool false) := (blk_cell BKg5.out 0).trans rfl; have hfg5_0 := blk_frozen BKg5.out 0; have hcg5_1 : W3.cell? ⟨g5, 1, none⟩ = some (.int .i64 0) := (blk_cell BKg5.out 1).trans rfl; have hfg5_1 := blk_frozen BKg5.out 1; have hcg5_2 : W3.cell? ⟨g5, 2, none⟩ = some (.int .i64 0) := (blk_cell BKg5.out 2).trans rfl; have hfg5_2 := blk_frozen BKg5.out 2; have hcg5_3 : W3.cell? ⟨g5, 3, none⟩ = some (.int .i64 0) := (blk_cell BKg5.out 3).trans rfl; have hfg5_3 := blk_frozen BKg5.out 3; have hcg5_4 : W3.cell? ⟨g5, 4, none⟩ = some (.int .i64 0) := (blk_cell BKg5.out 4).trans rfl; have hfg5_4 := blk_frozen BKg5.out 4; have hcg5_5 : W3.cell? ⟨g5, 5, none⟩ = some (.int .i64 0) := (blk_cell BKg5.out 5).trans rfl; have hfg5_5 := blk_frozen BKg5.out 5; have hcg5_6 : W3.cell? ⟨g5, 6, none⟩ = some (.int .i64 0) := (blk_cell BKg5.out 6).trans rfl; have hfg5_6 := blk_frozen BKg5.out 6; have hcg5_7 : W3.cell? ⟨g5, 7, none⟩ = some (.int .i64 0) := (blk_cell BKg5.out 7).trans rfl; have hfg5_7 := blk_frozen BKg5.out 7; have hcg5_8 : W3.cell? ⟨g5, 8, none⟩ = some (.int .i64 0) := (blk_cell BKg5.out 8).trans rfl; have hfg5_8 := blk_frozen BKg5.out 8))
  have n_ : Aside0 ((((((((((W3.setCell ⟨g5, 0, none⟩ (.bool m)).setCell ⟨g5, 1, none⟩ (.int .i64 0)).setCell ⟨g5, 2, none⟩ (.int .i64 0)).setCell ⟨g5, 3, none⟩ (.int .i64 0)).setCell ⟨g5, 4, none⟩ (.int .i64 0)).setCell ⟨g5, 5, none⟩ (.int .i64 0)).setCell ⟨g5, 6, none⟩ (.int .i64 0)).setCell ⟨g5, 7, none⟩ (.int .i64 0)).setCell ⟨g5, 8, none⟩ (.int .i64 0)).heap[g5]? = some (.cells #[.bool m, .int .i64 0, .int .i64 0, .int .i64 0, .int .i64 0, .int .i64 0, .int .i64 0, .int .i64 0, .int .i64 0] 60 (0, 0))) := ⟨by refine blk_put (cs := #[.bool m, .int .i64 0, .int .i64 0, .int .i64 0, .int .i64 0, .int .i64 0, .int .i64 0, .int .i64 0, .int .i64 0]) ?_ 8 _ rfl; refine blk_put (cs := #[.bool m, .int .i64 0, .int .i64 0, .int .i64 0, .int .i64 0, .int .i64 0, .int .i64 0, .int .i64 0, .int .i64 0]) ?_ 7 _ rfl; refine blk_put (cs := #[.bool m, .int .i64 0, .int .i64 0, .int .i64 0, .int .i64 0, .int .i64 0, .int .i64 0, .int .i64 0, .int .i64 0]) ?_ 6 _ rfl; refine blk_put (cs := #[.bool m, .int .i64 0, .int .i64 0, .int .i64 0, .int .i64 0, .int .i64 0, .int .i64 0, .int .i64 0, .int .i64 0]) ?_ 5 _ rfl; refine blk_put (cs := #[.bool m, .int .i64 0, .int .i64 0, .int .i64 0, .int .i64 0, .int .i64 0, .int .i64 0, .int .i64 0, .int .i64 0]) ?_ 4 _ rfl; refine blk_put (cs := #[.bool m, .int .i64 0, .int .i64 0, .int .i64 0, .int .i64 0, .int .i64 0, .int .i64 0, .int .i64 0, .int .i64 0]) ?_ 3 _ rfl; refine blk_put (cs := #[.bool m, .int .i64 0, .int .i64 0, .int .i64 0, .int .i64 0, .int .i64 0, .int .i64 0, .int .i64 0, .int .i64 0]) ?_ 2 _ rfl; refine blk_put (cs := #[.bool m, .int .i64 0, .int .i64 0, .int .i64 0, .int .i64 0, .int .i64 0, .int .i64 0, .int .i64 0, .int .i64 0]) ?_ 1 _ rfl; refine blk_put (cs := #[.bool false, .int .i64 0, .int .i64 0, .int .i64 0, .int .i64 0, .int .i64 0, .int .i64 0, .int .i64 0, .int .i64 0]) ?_ 0 _ rfl; exact BKg5.out⟩
  have m_ : Aside0 ((((((((((W3.setCell ⟨g5, 0, none⟩ (.bool m)).setCell ⟨g5, 1, none⟩ (.int .i64 0)).setCell ⟨g5, 2, none⟩ (.int .i64 0)).setCell ⟨g5, 3, none⟩ (.int .i64 0)).setCell ⟨g5, 4, none⟩ (.int .i64 0)).setCell ⟨g5, 5, none⟩ (.int .i64 0)).setCell ⟨g5, 6, none⟩ (.int .i64 0)).setCell ⟨g5, 7, none⟩ (.int .i64 0)).setCell ⟨g5, 8, none⟩ (.int .i64 0)).heap[g2]? = some (.cells (bigA m a) 60 (0, 0))) := ⟨(blk_far (blk_far (blk_far (blk_far (blk_far (blk_far (blk_far (blk_far (blk_far BKg2.out NBg2_g5 _) NBg2_g5 _) NBg2_g5 _) NBg2_g5 _) NBg2_g5 _) NBg2_g5 _) NBg2_g5 _) NBg2_g5 _) NBg2_g5 _)⟩
  clear BKg2; have BKg2 := m_; clear m_
  have m_ : Aside0 ((((((((((W3.setCell ⟨g5, 0, none⟩ (.bool m)).setCell ⟨g5, 1, none⟩ (.int .i64 0)).setCell ⟨g5, 2, none⟩ (.int .i64 0)).setCell ⟨g5, 3, none⟩ (.int .i64 0)).setCell ⟨g5, 4, none⟩ (.int .i64 0)).setCell ⟨g5, 5, none⟩ (.int .i64 0)).setCell ⟨g5, 6, none⟩ (.int .i64 0)).setCell ⟨g5, 7, none⟩ (.int .i64 0)).setCell ⟨g5, 8, none⟩ (.int .i64 0)).heap[g3]? = some (.cells #[.bool false, .int .i64 0, .int .i64 0, .int .i64 0, .int .i64 0, .int .i64 0, .int .i64 0, .int .i64 0, .int .i64 0] 60 (0, 0))) := ⟨(blk_far (blk_far (blk_far (blk_far (blk_far (blk_far (blk_far (blk_far (blk_far BKg3.out NBg3_g5 _) NBg3_g5 _) NBg3_g5 _) NBg3_g5 _) NBg3_g5 _) NBg3_g5 _) NBg3_g5 _) NBg3_g5 _) NBg3_g5 _)⟩
  clear BKg3; have BKg3 := m_; clear m_
  have b_ : Aside0 (Below w.heap.size w (((((((((W3.setCell ⟨g5, 0, none⟩ (.bool m)).setCell ⟨g5, 1, none⟩ (.int .i64 0)).setCell ⟨g5, 2, none⟩ (.int .i64 0)).setCell ⟨g5, 3, none⟩ (.int .i64 0)).setCell ⟨g5, 4, none⟩ (.int .i64 0)).setCell ⟨g5, 5, none⟩ (.int .i64 0)).setCell ⟨g5, 6, none⟩ (.int .i64 0)).setCell ⟨g5, 7, none⟩ (.int .i64 0)).setCell ⟨g5, 8, none⟩ (.int .i64 0))) := ⟨(below_set (below_set (below_set (below_set (below_set (below_set (below_set (below_set (below_set HB.out GEg5.out) GEg5.out) GEg5.out) GEg5.out) GEg5.out) GEg5.out) GEg5.out) GEg5.out) GEg5.out)⟩
  clear BKg5 HB; have BKg5 := n_; have HB := b_; clear n_ b_
  clear hcg2_0 hfg2_0
  clear hcg2_1 hfg2_1
  clear hcg2_2 hfg2_2
  clear hcg2_3 hfg2_3
  clear hcg2_4 hfg2_4
  clear hcg2_5 hfg2_5
  clear hcg2_6 hfg2_6
  clear hcg2_7 hfg2_7
  clear hcg2_8 hfg2_8
  clear hcg3_0 hfg3_0
  clear hcg3_1 hfg3_1
  clear hcg3_2 hfg3_2
  clear hcg3_3 hfg3_3
  clear hcg3_4 hfg3_4
  clear hcg3_5 hfg3_5
  clear hcg3_6 hfg3_6
  clear hcg3_7 hfg3_7
  clear hcg3_8 hfg3_8
  clear hcg5_0 hfg5_0
  clear hcg5_1 hfg5_1
  clear hcg5_2 hfg5_2
  clear hcg5_3 hfg5_3
  clear hcg5_4 hfg5_4
  clear hcg5_5 hfg5_5
  clear hcg5_6 hfg5_6
  clear hcg5_7 hfg5_7
  clear hcg5_8 hfg5_8
  generalize (((((((((W3.setCell ⟨g5, 0, none⟩ (.bool m)).setCell ⟨g5, 1, none⟩ (.int .i64 0)).setCell ⟨g5, 2, none⟩ (.int .i64 0)).setCell ⟨g5, 3, none⟩ (.int .i64 0)).setCell ⟨g5, 4, none⟩ (.int .i64 0)).setCell ⟨g5, 5, none⟩ (.int .i64 0)).setCell ⟨g5, 6, none⟩ (.int .i64 0)).setCell ⟨g5, 7, none⟩ (.int .i64 0)).setCell ⟨g5, 8, none⟩ (.int .i64 0)) = W4 at *
  have hcg2_0 : W4.cell? ⟨g2, 0, none⟩ = some (.bool m) := (blk_cell BKg2.out 0).trans rfl
  have hfg2_0 := blk_frozen BKg2.out 0
  have hcg2_1 : W4.cell? ⟨g2, 1, none⟩ = some (.int .i64 (a 0)) := (blk_cell BKg2.out 1).trans rfl
  have hfg2_1 := blk_frozen BKg2.out 1
  have hcg2_2 : W4.cell? ⟨g2, 2, none⟩ = some (.int .i64 (a 1)) := (blk_cell BKg2.out 2).trans rfl
  have hfg2_2 := blk_frozen BKg2.out 2
  have hcg2_3 : W4.cell? ⟨g2, 3, none⟩ = some (.int .i64 (a 2)) := (blk_cell BKg2.out 3).trans rfl
  have hfg2_3 := blk_frozen BKg2.out 3
  have hcg2_4 : W4.cell? ⟨g2, 4, none⟩ = some (.int .i64 (a 3)) := (blk_cell BKg2.out 4).trans rfl
  have hfg2_4 := blk_frozen BKg2.out 4
  have hcg2_5 : W4.cell? ⟨g2, 5, none⟩ = some (.int .i64 (a 4)) := (blk_cell BKg2.out 5).trans rfl
  have hfg2_5 := blk_frozen BKg2.out 5
  have hcg2_6 : W4.cell? ⟨g2, 6, none⟩ = some (.int .i64 (a 5)) := (blk_cell BKg2.out 6).trans rfl
  have hfg2_6 := blk_frozen BKg2.out 6
  have hcg2_7 : W4.cell? ⟨g2, 7, none⟩ = some (.int .i64 (a 6)) := (blk_cell BKg2.out 7).trans rfl
  have hfg2_7 := blk_frozen BKg2.out 7
  have hcg2_8 : W4.cell? ⟨g2, 8, none⟩ = some (.int .i64 (a 7)) := (blk_cell BKg2.out 8).trans rfl
  have hfg2_8 := blk_frozen BKg2.out 8
  have hcg3_0 : W4.cell? ⟨g3, 0, none⟩ = some (.bool false) := (blk_cell BKg3.out 0).trans rfl
  have hfg3_0 := blk_frozen BKg3.out 0
  have hcg3_1 : W4.cell? ⟨g3, 1, none⟩ = some (.int .i64 0) := (blk_cell BKg3.out 1).trans rfl
  have hfg3_1 := blk_frozen BKg3.out 1
  have hcg3_2 : W4.cell? ⟨g3, 2, none⟩ = some (.int .i64 0) := (blk_cell BKg3.out 2).trans rfl
  have hfg3_2 := blk_frozen BKg3.out 2
  have hcg3_3 : W4.cell? ⟨g3, 3, none⟩ = some (.int .i64 0) := (blk_cell BKg3.out 3).trans rfl
  have hfg3_3 := blk_frozen BKg3.out 3
  have hcg3_4 : W4.cell? ⟨g3, 4, none⟩ = some (.int .i64 0) := (blk_cell BKg3.out 4).trans rfl
  have hfg3_4 := blk_frozen BKg3.out 4
  have hcg3_5 : W4.cell? ⟨g3, 5, none⟩ = some (.int .i64 0) := (blk_cell BKg3.out 5).trans rfl
  have hfg3_5 := blk_frozen BKg3.out 5
  have hcg3_6 : W4.cell? ⟨g3, 6, none⟩ = some (.int .i64 0) := (blk_cell BKg3.out 6).trans rfl
  have hfg3_6 := blk_frozen BKg3.out 6
  have hcg3_7 : W4.cell? ⟨g3, 7, none⟩ = some (.int .i64 0) := (blk_cell BKg3.out 7).trans rfl
  have hfg3_7 := blk_frozen BKg3.out 7
  have hcg3_8 : W4.cell? ⟨g3, 8, none⟩ = some (.int .i64 0) := (blk_cell BKg3.out 8).trans rfl
  have hfg3_8 := blk_frozen BKg3.out 8
  have hcg5_0 : W4.cell? ⟨g5, 0, none⟩ = some (.bool m) := (blk_cell BKg5.out 0).trans rfl
  have hfg5_0 := blk_frozen BKg5.out 0
  have hcg5_1 : W4.cell? ⟨g5, 1, none⟩ = some (.int .i64 0) := (blk_cell BKg5.out 1).trans rfl
  have hfg5_1 := blk_frozen BKg5.out 1
  have hcg5_2 : W4.cell? ⟨g5, 2, none⟩ = some (.int .i64 0) := (blk_cell BKg5.out 2).trans rfl
  have hfg5_2 := blk_frozen BKg5.out 2
  have hcg5_3 : W4.cell? ⟨g5, 3, none⟩ = some (.int .i64 0) := (blk_cell BKg5.out 3).trans rfl
  have hfg5_3 := blk_frozen BKg5.out 3
  have hcg5_4 : W4.cell? ⟨g5, 4, none⟩ = some (.int .i64 0) := (blk_cell BKg5.out 4).trans rfl
  have hfg5_4 := blk_frozen BKg5.out 4
  have hcg5_5 : W4.cell? ⟨g5, 5, none⟩ = some (.int .i64 0) := (blk_cell BKg5.out 5).trans rfl
  have hfg5_5 := blk_frozen BKg5.out 5
  have hcg5_6 : W4.cell? ⟨g5, 6, none⟩ = some (.int .i64 0) := (blk_cell BKg5.out 6).trans rfl
  have hfg5_6 := blk_frozen BKg5.out 6
  have hcg5_7 : W4.cell? ⟨g5, 7, none⟩ = some (.int .i64 0) := (blk_cell BKg5.out 7).trans rfl
  have hfg5_7 := blk_frozen BKg5.out 7
  have hcg5_8 : W4.cell? ⟨g5, 8, none⟩ = some (.int .i64 0) := (blk_cell BKg5.out 8).trans rfl
  have hfg5_8 := blk_frozen BKg5.out 8
  have hm5 : W4.cell? ⟨g5, 0, none⟩ = W4.cell? ⟨g5, 0, none⟩ := rfl; clear hm5
  go_loopw [6] (fun vi wr => ∃ (i : Nat) (D : Nat → Int), vi = .int .i64 i ∧ Aside0 (SR a (shf a (2)) i D) ∧ Aside0 (wr.heap[g5]? = some (.cells (bigA m D) 60 (0, 0))) ∧ Aside0 (wr.heap[g2]? = some (.cells (bigA m a) 60 (0, 0))) ∧ Aside0 (wr.heap[g3]? = some (.cells #[.bool false, .int .i64 0, .int .i64 0, .int .i64 0, .int .i64 0, .int .i64 0, .int .i64 0, .int .i64 0, .int .i64 0] 60 (0, 0))) ∧ Aside0 (Below w.heap.size w wr)) (fun vi _ => 8 - (intOf vi).toNat)
  case atStart => exact ⟨0, (fun _ => 0), rfl, ⟨SR.start a _⟩, BKg5, BKg2, BKg3, HB⟩
  case round =>
    clear BKg2 BKg3 BKg5 HB hcg2_0 hfg2_0 hcg2_1 hfg2_1 hcg2_2 hfg2_2 hcg2_3 hfg2_3 hcg2_4 hfg2_4 hcg2_5 hfg2_5 hcg2_6 hfg2_6 hcg2_7 hfg2_7 hcg2_8 hfg2_8 hcg3_0 hfg3_0 hcg3_1 hfg3_1 hcg3_2 hfg3_2 hcg3_3 hfg3_3 hcg3_4 hfg3_4 hcg3_5 hfg3_5 hcg3_6 hfg3_6 hcg3_7 hfg3_7 hcg3_8 hfg3_8 hcg5_0 hfg5_0 hcg5_1 hfg5_1 hcg5_2 hfg5_2 hcg5_3 hfg5_3 hcg5_4 hfg5_4 hcg5_5 hfg5_5 hcg5_6 hfg5_6 hcg5_7 hfg5_7 hcg5_8 hfg5_8
    obtain ⟨i, D, rfl, HR, BKg5, BKg2, BKg3, HB⟩ := hrel
    have hi8 := HR.out.i8
    by_cases hlt : i < 8
    · by_cases hs : 2 ≤ i
      · obtain ⟨x, hx⟩ : ∃ x, x = a (i - 2) := ⟨_, rfl⟩
        have c5 : wr.cell? ⟨g5, 1 + i, none⟩ = some (.int .i64 (D i)) := (blk_cell BKg5.out (1 + i)).trans (big_get m D (by omega))
        have f5 := blk_frozen BKg5.out (1 + i)
        have c2 : wr.cell? ⟨g2, 1 + (i - 2), none⟩ = some (.int .i64 x) := (blk_cell BKg2.out (1 + (i - 2))).trans ((big_get m a (by omega)).trans (by rw [hx]))
        have HX := Lib.hid (show shf a (2) i = x from by rw [hx]; exact shf_p2 a hs hlt)
        clear hx
        go_wp2
        exact ⟨⟨i + 1, upd D i x, rfl, ⟨by rw [← HX.out]; exact HR.out.set hlt⟩, ⟨blk_put BKg5.out _ _ (big_set _ D (by omega) _)⟩, ⟨blk_far BKg2.out NBg2_g5 _⟩, ⟨blk_far BKg3.out NBg3_g5 _⟩, ⟨below_set HB.out GEg5.out⟩⟩, by simp [intOf]; omega⟩
      · have HX := Lib.hid (show shf a (2) i = 0 from shf_p2' a (by omega))
        go_wp2
        exact ⟨⟨i + 1, D, rfl, ⟨HR.out.skip hlt HX.out⟩, BKg5, BKg2, BKg3, HB⟩, by simp [intOf]; omega⟩
    · have e : i = 8 := by omega
      subst e
      have hd := HR.out.done
      have hrep : Rep D (V * 4294967296) := shift_up ha hV ((hd 0 (by omega)).trans (shf_p2' a (by omega))) ((hd 1 (by omega)).trans (shf_p2' a (by omega))) (fun j hj => (hd (j + 2) (by omega)).trans ((shf_p2 a (by omega) (by omega)).trans (by congr 1)))
      clear hd
      have hcg5_0 : wr.cell? ⟨g5, 0, none⟩ = some (.bool m) := (blk_cell BKg5.out 0).trans rfl; have hfg5_0 := blk_frozen BKg5.out 0
      have hcg5_1 : wr.cell? ⟨g5, 1, none⟩ = some (.int .i64 (D 0)) := (blk_cell BKg5.out 1).trans rfl; have hfg5_1 := blk_frozen BKg5.out 1
      have hcg5_2 : wr.cell? ⟨g5, 2, none⟩ = some (.int .i64 (D 1)) := (blk_cell BKg5.out 2).trans rfl; have hfg5_2 := blk_frozen BKg5.out 2
      have hcg5_3 : wr.cell? ⟨g5, 3, none⟩ = some (.int .i64 (D 2)) := (blk_cell BKg5.out 3).trans rfl; have hfg5_3 := blk_frozen BKg5.out 3
      have hcg5_4 : wr.cell? ⟨g5, 4, none⟩ = some (.int .i64 (D 3)) := (blk_cell BKg5.out 4).trans rfl; have hfg5_4 := blk_frozen BKg5.out 4
      have hcg5_5 : wr.cell? ⟨g5, 5, none⟩ = some (.int .i64 (D 4)) := (blk_cell BKg5.out 5).trans rfl; have hfg5_5 := blk_frozen BKg5.out 5
      have hcg5_6 : wr.cell? ⟨g5, 6, none⟩ = some (.int .i64 (D 5)) := (blk_cell BKg5.out 6).trans rfl; have hfg5_6 := blk_frozen BKg5.out 6
      have hcg5_7 : wr.cell? ⟨g5, 7, none⟩ = some (.int .i64 (D 6)) := (blk_cell BKg5.out 7).trans rfl; have hfg5_7 := blk_frozen BKg5.out 7
      have hcg5_8 : wr.cell? ⟨g5, 8, none⟩ = some (.int .i64 (D 7)) := (blk_cell BKg5.out 8).trans rfl; have hfg5_8 := blk_frozen BKg5.out 8
      have hcg3_0 : wr.cell? ⟨g3, 0, none⟩ = some (.bool false) := (blk_cell BKg3.out 0).trans rfl; have hfg3_0 := blk_frozen BKg3.out 0
      have hcg3_1 : wr.cell? ⟨g3, 1, none⟩ = some (.int .i64 0) := (blk_cell BKg3.out 1).trans rfl; have hfg3_1 := blk_frozen BKg3.out 1
      have hcg3_2 : wr.cell? ⟨g3, 2, none⟩ = some (.int .i64 0) := (blk_cell BKg3.out 2).trans rfl; have hfg3_2 := blk_frozen BKg3.out 2
      have hcg3_3 : wr.cell? ⟨g3, 3, none⟩ = some (.int .i64 0) := (blk_cell BKg3.out 3).trans rfl; have hfg3_3 := blk_frozen BKg3.out 3
      have hcg3_4 : wr.cell? ⟨g3, 4, none⟩ = some (.int .i64 0) := (blk_cell BKg3.out 4).trans rfl; have hfg3_4 := blk_frozen BKg3.out 4
      have hcg3_5 : wr.cell? ⟨g3, 5, none⟩ = some (.int .i64 0) := (blk_cell BKg3.out 5).trans rfl; have hfg3_5 := blk_frozen BKg3.out 5
      have hcg3_6 : wr.cell? ⟨g3, 6, none⟩ = some (.int .i64 0) := (blk_cell BKg3.out 6).trans rfl; have hfg3_6 := blk_frozen BKg3.out 6
      have hcg3_7 : wr.cell? ⟨g3, 7, none⟩ = some (.int .i64 0) := (blk_cell BKg3.out 7).trans rfl; have hfg3_7 := blk_frozen BKg3.out 7
      have hcg3_8 : wr.cell? ⟨g3, 8, none⟩ = some (.int .i64 0) := (blk_cell BKg3.out 8).trans rfl; have hfg3_8 := blk_frozen BKg3.out 8
      go_wp2
      refine bodyPost_ret (results_cell_row rfl _ _ g3 60 #[.bool m, .int .i64 (D 0), .int .i64 (D 1), .int .i64 (D 2), .int .i64 (D 3), .int .i64 (D 4), .int .i64 (D 5), .int .i64 (D 6), .int .i64 (D 7)] (0, 0) _ rfl (by (with_reducible repeat (first | refine blk_drewN ?_ _ | refine blk_drew ?_ | refine blk_alloc ?_ _)); refine blk_put (cs := #[.bool m, .int .i64 (D 0), .int .i64 (D 1), .int .i64 (D 2), .int .i64 (D 3), .int .i64 (D 4), .int .i64 (D 5), .int .i64 (D 6), .int .i64 0]) ?_ 8 _ rfl; (with_reducible repeat (first | refine blk_drewN ?_ _ | refine blk_drew ?_ | refine blk_alloc ?_ _)); refine blk_put (cs := #[.bool m, .int .i64 (D 0), .int .i64 (D 1), .int .i64 (D 2), .int .i64 (D 3), .int .i64 (D 4), .int .i64 (D 5), .int .i64 0, .int .i64 0]) ?_ 7 _ rfl; (with_reducible repeat (first | refine blk_drewN ?_ _ | refine blk_drew ?_ | refine blk_alloc ?_ _)); refine blk_put (cs := #[.bool m, .int .i64 (D 0), .int .i64 (D 1), .int .i64 (D 2), .int .i64 (D 3), .int .i64 (D 4), .int .i64 0, .int .i64 0, .int .i64 0]) ?_ 6 _ rfl; (with_reducible repeat (first | refine blk_drewN ?_ _ | refine blk_drew ?_ | refine blk_alloc ?_ _)); refine blk_put (cs := #[.bool m, .int .i64 (D 0), .int .i64 (D 1), .int .i64 (D 2), .int .i64 (D 3), .int .i64 0, .int .i64 0, .int .i64 0, .int .i64 0]) ?_ 5 _ rfl; (with_reducible repeat (first | refine blk_drewN ?_ _ | refine blk_drew ?_ | refine blk_alloc ?_ _)); refine blk_put (cs := #[.bool m, .int .i64 (D 0), .int .i64 (D 1), .int .i64 (D 2), .int .i64 0, .int .i64 0, .int .i64 0, .int .i64 0, .int .i64 0]) ?_ 4 _ rfl; (with_reducible repeat (first | refine blk_drewN ?_ _ | refine blk_drew ?_ | refine blk_alloc ?_ _)); refine blk_put (cs := #[.bool m, .int .i64 (D 0), .int .i64 (D 1), .int .i64 0, .int .i64 0, .int .i64 0, .int .i64 0, .int .i64 0, .int .i64 0]) ?_ 3 _ rfl; (with_reducible repeat (first | refine blk_drewN ?_ _ | refine blk_drew ?_ | refine blk_alloc ?_ _)); refine blk_put (cs := #[.bool m, .int .i64 (D 0), .int .i64 0, .int .i64 0, .int .i64 0, .int .i64 0, .int .i64 0, .int .i64 0, .int .i64 0]) ?_ 2 _ rfl; (with_reducible repeat (first | refine blk_drewN ?_ _ | refine blk_drew ?_ | refine blk_alloc ?_ _)); refine blk_put (cs := #[.bool m, .int .i64 0, .int .i64 0, .int .i64 0, .int .i64 0, .int .i64 0, .int .i64 0, .int .i64 0, .int .i64 0]) ?_ 1 _ rfl; (with_reducible repeat (first | refine blk_drewN ?_ _ | refine blk_drew ?_ | refine blk_alloc ?_ _)); refine blk_put (cs := #[.bool false, .int .i64 0, .int .i64 0, .int .i64 0, .int .i64 0, .int .i64 0, .int .i64 0, .int .i64 0, .int .i64 0]) ?_ 0 _ rfl; (with_reducible repeat (first | refine blk_drewN ?_ _ | refine blk_drew ?_ | refine blk_alloc ?_ _)); exact BKg3.out) Tryd.underlying60 rfl (by kernel_rfl)) rfl ?_
      exact ⟨D, rfl, hrep, by repeat (first | (with_reducible first | exact HB.out | apply below_alloc | apply pw_below_drewN | apply below_drew1 | refine below_set ?_ GEg3.out) | exact HB.out)⟩
set_option maxHeartbeats 8000000 in
set_option maxRecDepth 100000 in
theorem stop_calls (m : Bool) (a : Nat → Int) (V : Int) (w : World) (ha : Rep a V) :
    Calls Tryd.prog 46 #[.agg (bigA m a)] w
      fun e w' => e = .returned (.int .i64 (sat (if m then -V else V))) ∧ Below w.heap.size w w' := by
  have HB := Aside0.mk (Below.refl w.heap.size w)
  have gi := great_iff ha
  obtain ⟨l3, u3⟩ := ha.dig 3 (by omega)
  obtain ⟨l4, u4⟩ := ha.dig 4 (by omega)
  obtain ⟨l5, u5⟩ := ha.dig 5 (by omega)
  obtain ⟨l6, u6⟩ := ha.dig 6 (by omega)
  obtain ⟨l7, u7⟩ := ha.dig 7 (by omega)
  have hcase : (0 < a 4 + a 5 + a 6 + a 7) ∨ (a 4 + a 5 + a 6 + a 7 ≤ 0 ∧ 32768 ≤ a 3) ∨ (a 4 + a 5 + a 6 + a 7 ≤ 0 ∧ a 3 < 32768) := by omega
  have GI := Lib.hid gi; clear gi
  rcases hcase with q | ⟨q, r⟩ | ⟨q, r⟩
  ·
    go_enter Tryd.func46, Tryd.ntmps46
    go_wp2_with (first | ((with_reducible refine gate_dst (N := 1) rfl ?_); refine box_event ?hg (N := 1) ?hd (cs := (bigA m a)) (t := 60) ?hr ?_; (case hd => rfl); (case hg => rfl); (case hr => first | (go_simp; done) | (go_simp; rfl)); intro g1 hg_ W1 hbox_ hb_; have GEg1 := Aside0.mk ((by rw [hg_]; exact (below_size HB.out)) : w.heap.size ≤ g1); clear hg_; have n_ := Aside0.mk (below_step HB.out hb_); clear HB; have HB := n_; clear n_; have BKg1 := Aside0.mk hbox_; clear hbox_ hb_; have hcg1_0 : W1.cell? ⟨g1, 0, none⟩ = some (.bool m) := (blk_cell BKg1.out 0).trans rfl; have hfg1_0 := blk_frozen BKg1.out 0; have hcg1_1 : W1.cell? ⟨g1, 1, none⟩ = some (.int .i64 (a 0)) := (blk_cell BKg1.out 1).trans rfl; have hfg1_1 := blk_frozen BKg1.out 1; have hcg1_2 : W1.cell? ⟨g1, 2, none⟩ = some (.int .i64 (a 1)) := (blk_cell BKg1.out 2).trans rfl; have hfg1_2 := blk_frozen BKg1.out 2; have hcg1_3 : W1.cell? ⟨g1, 3, none⟩ = some (.int .i64 (a 2)) := (blk_cell BKg1.out 3).trans rfl; have hfg1_3 := blk_frozen BKg1.out 3; have hcg1_4 : W1.cell? ⟨g1, 4, none⟩ = some (.int .i64 (a 3)) := (blk_cell BKg1.out 4).trans rfl; have hfg1_4 := blk_frozen BKg1.out 4; have hcg1_5 : W1.cell? ⟨g1, 5, none⟩ = some (.int .i64 (a 4)) := (blk_cell BKg1.out 5).trans rfl; have hfg1_5 := blk_frozen BKg1.out 5; have hcg1_6 : W1.cell? ⟨g1, 6, none⟩ = some (.int .i64 (a 5)) := (blk_cell BKg1.out 6).trans rfl; have hfg1_6 := blk_frozen BKg1.out 6; have hcg1_7 : W1.cell? ⟨g1, 7, none⟩ = some (.int .i64 (a 6)) := (blk_cell BKg1.out 7).trans rfl; have hfg1_7 := blk_frozen BKg1.out 7; have hcg1_8 : W1.cell? ⟨g1, 8, none⟩ = some (.int .i64 (a 7)) := (blk_cell BKg1.out 8).trans rfl; have hfg1_8 := blk_frozen BKg1.out 8))
    go_loopw [3, 5] (fun vu vi wr => ∃ (j : Nat), vu = .int .u64 (ustep a (4 - j)) ∧ vi = .int .i64 ((j : Int) - 1) ∧ Aside0 (j ≤ 4) ∧ Aside0 (wr.heap[g1]? = some (.cells (bigA m a) 60 (0, 0))) ∧ Aside0 (Below w.heap.size w wr)) (fun _ vi _ => (intOf vi + 1).toNat)
    case atStart => exact ⟨4, rfl, rfl, ⟨by omega⟩, BKg1, HB⟩
    case round =>
      clear BKg1 HB hcg1_0 hfg1_0 hcg1_1 hfg1_1 hcg1_2 hfg1_2 hcg1_3 hfg1_3 hcg1_4 hfg1_4 hcg1_5 hfg1_5 hcg1_6 hfg1_6 hcg1_7 hfg1_7 hcg1_8 hfg1_8
      obtain ⟨j, rfl, rfl, Hj, BKg1, HB⟩ := hrel
      have hb := ustep_bound ha.dig (4 - j) (by omega)
      have hj4 := Hj.out
      cases j with
      | zero =>
        obtain ⟨X, hX⟩ : ∃ X, X = ustep a 4 := ⟨_, rfl⟩
        rw [show ustep a (4 - 0) = X from by rw [hX], show (((0 : Nat) : Int) - 1) = -1 from rfl]
        have hX0 : 0 ≤ X := by rw [hX]; exact hb.1
        have hX1 : X < 18446744073709551616 := by rw [hX]; have := hb.2; rw [← pw4]; exact this
        have hc0 : wr.cell? ⟨g1, 0, none⟩ = some (.bool m) := (blk_cell BKg1.out 0).trans rfl
        have HX := Lib.hid hX; clear hX hb
        cases m with
        | true =>
          go_wp2
          go_ret
          refine ⟨ret_int ?_, HB.out⟩
          have gv := GI.out; (try simp only [if_true, Bool.false_eq_true, if_false]); unfold sat; (repeat' split) <;> omega
        | false =>
          go_wp2
          go_ret
          refine ⟨ret_int ?_, HB.out⟩
          have gv := GI.out; (try simp only [if_true, Bool.false_eq_true, if_false]); unfold sat; (repeat' split) <;> omega
      | succ j =>
        obtain ⟨X, hX⟩ : ∃ X, X = ustep a (4 - (j + 1)) := ⟨_, rfl⟩
        obtain ⟨x, hx⟩ : ∃ x, x = a j := ⟨_, rfl⟩
        rw [← hX, show (((j + 1 : Nat) : Int) - 1) = (j : Int) from by omega]
        rw [← hX] at hb
        obtain ⟨x0, x1⟩ := ha.dig j (by omega); rw [← hx] at x0 x1
        have hp3 := pw_le3 (4 - (j + 1)) (by omega)
        have hX0 : 0 ≤ X := hb.1; have hX1 : X < 281474976710656 := by omega
        have hst : X * 65536 + x = ustep a (4 - j) := by rw [show 4 - j = (4 - (j + 1)) + 1 from by omega]; simp only [ustep]; rw [← hX, show 3 - (4 - (j + 1)) = j from by omega, hx]
        have HS := Lib.hid hst; have hc0 : wr.cell? ⟨g1, 1 + j, none⟩ = some (.int .i64 x) := (blk_cell BKg1.out (1 + j)).trans ((big_get m a (by omega)).trans (by rw [hx]))
        clear hst hX hx hb hp3
        go_wp2
        exact ⟨⟨j, congrArg (Value.int .u64) HS.out, rfl, ⟨by omega⟩, BKg1, HB⟩, by simp [intOf]⟩
  ·
    go_enter Tryd.func46, Tryd.ntmps46
    go_wp2_with (first | ((with_reducible refine gate_dst (N := 1) rfl ?_); refine box_event ?hg (N := 1) ?hd (cs := (bigA m a)) (t := 60) ?hr ?_; (case hd => rfl); (case hg => rfl); (case hr => first | (go_simp; done) | (go_simp; rfl)); intro g1 hg_ W1 hbox_ hb_; have GEg1 := Aside0.mk ((by rw [hg_]; exact (below_size HB.out)) : w.heap.size ≤ g1); clear hg_; have n_ := Aside0.mk (below_step HB.out hb_); clear HB; have HB := n_; clear n_; have BKg1 := Aside0.mk hbox_; clear hbox_ hb_; have hcg1_0 : W1.cell? ⟨g1, 0, none⟩ = some (.bool m) := (blk_cell BKg1.out 0).trans rfl; have hfg1_0 := blk_frozen BKg1.out 0; have hcg1_1 : W1.cell? ⟨g1, 1, none⟩ = some (.int .i64 (a 0)) := (blk_cell BKg1.out 1).trans rfl; have hfg1_1 := blk_frozen BKg1.out 1; have hcg1_2 : W1.cell? ⟨g1, 2, none⟩ = some (.int .i64 (a 1)) := (blk_cell BKg1.out 2).trans rfl; have hfg1_2 := blk_frozen BKg1.out 2; have hcg1_3 : W1.cell? ⟨g1, 3, none⟩ = some (.int .i64 (a 2)) := (blk_cell BKg1.out 3).trans rfl; have hfg1_3 := blk_frozen BKg1.out 3; have hcg1_4 : W1.cell? ⟨g1, 4, none⟩ = some (.int .i64 (a 3)) := (blk_cell BKg1.out 4).trans rfl; have hfg1_4 := blk_frozen BKg1.out 4; have hcg1_5 : W1.cell? ⟨g1, 5, none⟩ = some (.int .i64 (a 4)) := (blk_cell BKg1.out 5).trans rfl; have hfg1_5 := blk_frozen BKg1.out 5; have hcg1_6 : W1.cell? ⟨g1, 6, none⟩ = some (.int .i64 (a 5)) := (blk_cell BKg1.out 6).trans rfl; have hfg1_6 := blk_frozen BKg1.out 6; have hcg1_7 : W1.cell? ⟨g1, 7, none⟩ = some (.int .i64 (a 6)) := (blk_cell BKg1.out 7).trans rfl; have hfg1_7 := blk_frozen BKg1.out 7; have hcg1_8 : W1.cell? ⟨g1, 8, none⟩ = some (.int .i64 (a 7)) := (blk_cell BKg1.out 8).trans rfl; have hfg1_8 := blk_frozen BKg1.out 8))
    go_loopw [3, 5] (fun vu vi wr => ∃ (j : Nat), vu = .int .u64 (ustep a (4 - j)) ∧ vi = .int .i64 ((j : Int) - 1) ∧ Aside0 (j ≤ 4) ∧ Aside0 (wr.heap[g1]? = some (.cells (bigA m a) 60 (0, 0))) ∧ Aside0 (Below w.heap.size w wr)) (fun _ vi _ => (intOf vi + 1).toNat)
    case atStart => exact ⟨4, rfl, rfl, ⟨by omega⟩, BKg1, HB⟩
    case round =>
      clear BKg1 HB hcg1_0 hfg1_0 hcg1_1 hfg1_1 hcg1_2 hfg1_2 hcg1_3 hfg1_3 hcg1_4 hfg1_4 hcg1_5 hfg1_5 hcg1_6 hfg1_6 hcg1_7 hfg1_7 hcg1_8 hfg1_8
      obtain ⟨j, rfl, rfl, Hj, BKg1, HB⟩ := hrel
      have hb := ustep_bound ha.dig (4 - j) (by omega)
      have hj4 := Hj.out
      cases j with
      | zero =>
        obtain ⟨X, hX⟩ : ∃ X, X = ustep a 4 := ⟨_, rfl⟩
        rw [show ustep a (4 - 0) = X from by rw [hX], show (((0 : Nat) : Int) - 1) = -1 from rfl]
        have hX0 : 0 ≤ X := by rw [hX]; exact hb.1
        have hX1 : X < 18446744073709551616 := by rw [hX]; have := hb.2; rw [← pw4]; exact this
        have hc0 : wr.cell? ⟨g1, 0, none⟩ = some (.bool m) := (blk_cell BKg1.out 0).trans rfl
        have HX := Lib.hid hX; clear hX hb
        cases m with
        | true =>
          go_wp2
          go_ret
          refine ⟨ret_int ?_, HB.out⟩
          have gv := GI.out; (try simp only [if_true, Bool.false_eq_true, if_false]); unfold sat; (repeat' split) <;> omega
        | false =>
          go_wp2
          go_ret
          refine ⟨ret_int ?_, HB.out⟩
          have gv := GI.out; (try simp only [if_true, Bool.false_eq_true, if_false]); unfold sat; (repeat' split) <;> omega
      | succ j =>
        obtain ⟨X, hX⟩ : ∃ X, X = ustep a (4 - (j + 1)) := ⟨_, rfl⟩
        obtain ⟨x, hx⟩ : ∃ x, x = a j := ⟨_, rfl⟩
        rw [← hX, show (((j + 1 : Nat) : Int) - 1) = (j : Int) from by omega]
        rw [← hX] at hb
        obtain ⟨x0, x1⟩ := ha.dig j (by omega); rw [← hx] at x0 x1
        have hp3 := pw_le3 (4 - (j + 1)) (by omega)
        have hX0 : 0 ≤ X := hb.1; have hX1 : X < 281474976710656 := by omega
        have hst : X * 65536 + x = ustep a (4 - j) := by rw [show 4 - j = (4 - (j + 1)) + 1 from by omega]; simp only [ustep]; rw [← hX, show 3 - (4 - (j + 1)) = j from by omega, hx]
        have HS := Lib.hid hst; have hc0 : wr.cell? ⟨g1, 1 + j, none⟩ = some (.int .i64 x) := (blk_cell BKg1.out (1 + j)).trans ((big_get m a (by omega)).trans (by rw [hx]))
        clear hst hX hx hb hp3
        go_wp2
        exact ⟨⟨j, congrArg (Value.int .u64) HS.out, rfl, ⟨by omega⟩, BKg1, HB⟩, by simp [intOf]⟩
  ·
    go_enter Tryd.func46, Tryd.ntmps46
    go_wp2_with (first | ((with_reducible refine gate_dst (N := 1) rfl ?_); refine box_event ?hg (N := 1) ?hd (cs := (bigA m a)) (t := 60) ?hr ?_; (case hd => rfl); (case hg => rfl); (case hr => first | (go_simp; done) | (go_simp; rfl)); intro g1 hg_ W1 hbox_ hb_; have GEg1 := Aside0.mk ((by rw [hg_]; exact (below_size HB.out)) : w.heap.size ≤ g1); clear hg_; have n_ := Aside0.mk (below_step HB.out hb_); clear HB; have HB := n_; clear n_; have BKg1 := Aside0.mk hbox_; clear hbox_ hb_; have hcg1_0 : W1.cell? ⟨g1, 0, none⟩ = some (.bool m) := (blk_cell BKg1.out 0).trans rfl; have hfg1_0 := blk_frozen BKg1.out 0; have hcg1_1 : W1.cell? ⟨g1, 1, none⟩ = some (.int .i64 (a 0)) := (blk_cell BKg1.out 1).trans rfl; have hfg1_1 := blk_frozen BKg1.out 1; have hcg1_2 : W1.cell? ⟨g1, 2, none⟩ = some (.int .i64 (a 1)) := (blk_cell BKg1.out 2).trans rfl; have hfg1_2 := blk_frozen BKg1.out 2; have hcg1_3 : W1.cell? ⟨g1, 3, none⟩ = some (.int .i64 (a 2)) := (blk_cell BKg1.out 3).trans rfl; have hfg1_3 := blk_frozen BKg1.out 3; have hcg1_4 : W1.cell? ⟨g1, 4, none⟩ = some (.int .i64 (a 3)) := (blk_cell BKg1.out 4).trans rfl; have hfg1_4 := blk_frozen BKg1.out 4; have hcg1_5 : W1.cell? ⟨g1, 5, none⟩ = some (.int .i64 (a 4)) := (blk_cell BKg1.out 5).trans rfl; have hfg1_5 := blk_frozen BKg1.out 5; have hcg1_6 : W1.cell? ⟨g1, 6, none⟩ = some (.int .i64 (a 5)) := (blk_cell BKg1.out 6).trans rfl; have hfg1_6 := blk_frozen BKg1.out 6; have hcg1_7 : W1.cell? ⟨g1, 7, none⟩ = some (.int .i64 (a 6)) := (blk_cell BKg1.out 7).trans rfl; have hfg1_7 := blk_frozen BKg1.out 7; have hcg1_8 : W1.cell? ⟨g1, 8, none⟩ = some (.int .i64 (a 7)) := (blk_cell BKg1.out 8).trans rfl; have hfg1_8 := blk_frozen BKg1.out 8))
    go_loopw [3, 5] (fun vu vi wr => ∃ (j : Nat), vu = .int .u64 (ustep a (4 - j)) ∧ vi = .int .i64 ((j : Int) - 1) ∧ Aside0 (j ≤ 4) ∧ Aside0 (wr.heap[g1]? = some (.cells (bigA m a) 60 (0, 0))) ∧ Aside0 (Below w.heap.size w wr)) (fun _ vi _ => (intOf vi + 1).toNat)
    case atStart => exact ⟨4, rfl, rfl, ⟨by omega⟩, BKg1, HB⟩
    case round =>
      clear BKg1 HB hcg1_0 hfg1_0 hcg1_1 hfg1_1 hcg1_2 hfg1_2 hcg1_3 hfg1_3 hcg1_4 hfg1_4 hcg1_5 hfg1_5 hcg1_6 hfg1_6 hcg1_7 hfg1_7 hcg1_8 hfg1_8
      obtain ⟨j, rfl, rfl, Hj, BKg1, HB⟩ := hrel
      have hb := ustep_bound ha.dig (4 - j) (by omega)
      have hj4 := Hj.out
      cases j with
      | zero =>
        obtain ⟨X, hX⟩ : ∃ X, X = ustep a 4 := ⟨_, rfl⟩
        rw [show ustep a (4 - 0) = X from by rw [hX], show (((0 : Nat) : Int) - 1) = -1 from rfl]
        have hX0 : 0 ≤ X := by rw [hX]; exact hb.1
        have hX1 : X < 18446744073709551616 := by rw [hX]; have := hb.2; rw [← pw4]; exact this
        have hc0 : wr.cell? ⟨g1, 0, none⟩ = some (.bool m) := (blk_cell BKg1.out 0).trans rfl
        have HX := Lib.hid hX; clear hX hb
        have HV : Hid (V = X) := Lib.hid (by have := (ha.high (m := 4) (by omega) (by rw [pw4]; have := GI.out; omega)).2; rw [HX.out, ustep4]; exact this.symm)
        have hX2 : X ≤ 9223372036854775807 := by have := GI.out; rw [← HV.out]; omega
        cases m with
        | true =>
          go_wp2
          go_ret
          refine ⟨ret_int ?_, HB.out⟩
          rw [HV.out]; (try simp only [if_true, Bool.false_eq_true, if_false]); unfold sat; (repeat' split) <;> omega
        | false =>
          go_wp2
          go_ret
          refine ⟨ret_int ?_, HB.out⟩
          rw [HV.out]; (try simp only [if_true, Bool.false_eq_true, if_false]); unfold sat; (repeat' split) <;> omega
      | succ j =>
        obtain ⟨X, hX⟩ : ∃ X, X = ustep a (4 - (j + 1)) := ⟨_, rfl⟩
        obtain ⟨x, hx⟩ : ∃ x, x = a j := ⟨_, rfl⟩
        rw [← hX, show (((j + 1 : Nat) : Int) - 1) = (j : Int) from by omega]
        rw [← hX] at hb
        obtain ⟨x0, x1⟩ := ha.dig j (by omega); rw [← hx] at x0 x1
        have hp3 := pw_le3 (4 - (j + 1)) (by omega)
        have hX0 : 0 ≤ X := hb.1; have hX1 : X < 281474976710656 := by omega
        have hst : X * 65536 + x = ustep a (4 - j) := by rw [show 4 - j = (4 - (j + 1)) + 1 from by omega]; simp only [ustep]; rw [← hX, show 3 - (4 - (j + 1)) = j from by omega, hx]
        have HS := Lib.hid hst; have hc0 : wr.cell? ⟨g1, 1 + j, none⟩ = some (.int .i64 x) := (blk_cell BKg1.out (1 + j)).trans ((big_get m a (by omega)).trans (by rw [hx]))
        clear hst hX hx hb hp3
        go_wp2
        exact ⟨⟨j, congrArg (Value.int .u64) HS.out, rfl, ⟨by omega⟩, BKg1, HB⟩, by simp [intOf]⟩
set_option maxHeartbeats 8000000 in
set_option maxRecDepth 100000 in
theorem compare_calls (ma mb : Bool) (a b : Nat → Int) (A B : Int) (w : World) (ha : Rep a A) (hb : Rep b B) :
    Calls Tryd.prog 49 #[.agg (bigA ma a), .agg (bigA mb b)] w
      fun e w' => e = .returned (.int .i64 (cmpI A B)) ∧ Below w.heap.size w w' := by
  have HB := Aside0.mk (Below.refl w.heap.size w)
  go_enter Tryd.func49, Tryd.ntmps49
  go_wp2_with (first | ((with_reducible refine gate_dst (N := 2) rfl ?_); refine box_event ?hg (N := 2) ?hd (cs := (bigA ma a)) (t := 60) ?hr ?_; (case hd => rfl); (case hg => rfl); (case hr => first | (go_simp; done) | (go_simp; rfl)); intro g1 hg_ W1 hbox_ hb_; have GEg1 := Aside0.mk ((by rw [hg_]; exact (below_size HB.out)) : w.heap.size ≤ g1); clear hg_; have n_ := Aside0.mk (below_step HB.out hb_); clear HB; have HB := n_; clear n_; have BKg1 := Aside0.mk hbox_; clear hbox_ hb_; have hcg1_0 : W1.cell? ⟨g1, 0, none⟩ = some (.bool ma) := (blk_cell BKg1.out 0).trans rfl; have hfg1_0 := blk_frozen BKg1.out 0; have hcg1_1 : W1.cell? ⟨g1, 1, none⟩ = some (.int .i64 (a 0)) := (blk_cell BKg1.out 1).trans rfl; have hfg1_1 := blk_frozen BKg1.out 1; have hcg1_2 : W1.cell? ⟨g1, 2, none⟩ = some (.int .i64 (a 1)) := (blk_cell BKg1.out 2).trans rfl; have hfg1_2 := blk_frozen BKg1.out 2; have hcg1_3 : W1.cell? ⟨g1, 3, none⟩ = some (.int .i64 (a 2)) := (blk_cell BKg1.out 3).trans rfl; have hfg1_3 := blk_frozen BKg1.out 3; have hcg1_4 : W1.cell? ⟨g1, 4, none⟩ = some (.int .i64 (a 3)) := (blk_cell BKg1.out 4).trans rfl; have hfg1_4 := blk_frozen BKg1.out 4; have hcg1_5 : W1.cell? ⟨g1, 5, none⟩ = some (.int .i64 (a 4)) := (blk_cell BKg1.out 5).trans rfl; have hfg1_5 := blk_frozen BKg1.out 5; have hcg1_6 : W1.cell? ⟨g1, 6, none⟩ = some (.int .i64 (a 5)) := (blk_cell BKg1.out 6).trans rfl; have hfg1_6 := blk_frozen BKg1.out 6; have hcg1_7 : W1.cell? ⟨g1, 7, none⟩ = some (.int .i64 (a 6)) := (blk_cell BKg1.out 7).trans rfl; have hfg1_7 := blk_frozen BKg1.out 7; have hcg1_8 : W1.cell? ⟨g1, 8, none⟩ = some (.int .i64 (a 7)) := (blk_cell BKg1.out 8).trans rfl; have hfg1_8 := blk_frozen BKg1.out 8) | ((with_reducible refine gate_dst (N := 3) rfl ?_); refine box_event ?hg (N := 3) ?hd (cs := (bigA mb b)) (t := 60) ?hr ?_; (case hd => rfl); (case hg => rfl); (case hr => first | (go_simp; done) | (go_simp; rfl)); intro g2 hg_ W2 hbox_ hb_; have GEg2 := Aside0.mk ((by rw [hg_]; exact (below_size HB.out)) : w.heap.size ≤ g2); have NBg1_g2 : g1 ≠ g2 := (by rw [hg_]; exact Nat.ne_of_lt (blk_lt BKg1.out)); have NBg2_g1 : g2 ≠ g1 := Ne.symm NBg1_g2; clear hg_; have n_ := Aside0.mk (blk_below BKg1.out hb_); clear BKg1; have BKg1 := n_; clear n_; clear hcg1_0 hfg1_0; clear hcg1_1 hfg1_1; clear hcg1_2 hfg1_2; clear hcg1_3 hfg1_3; clear hcg1_4 hfg1_4; clear hcg1_5 hfg1_5; clear hcg1_6 hfg1_6; clear hcg1_7 hfg1_7; clear hcg1_8 hfg1_8; have n_ := Aside0.mk (below_step HB.out hb_); clear HB; have HB := n_; clear n_; have BKg2 := Aside0.mk hbox_; clear hbox_ hb_; have hcg1_0 : W2.cell? ⟨g1, 0, none⟩ = some (.bool ma) := (blk_cell BKg1.out 0).trans rfl; have hfg1_0 := blk_frozen BKg1.out 0; have hcg1_1 : W2.cell? ⟨g1, 1, none⟩ = some (.int .i64 (a 0)) := (blk_cell BKg1.out 1).trans rfl; have hfg1_1 := blk_frozen BKg1.out 1; have hcg1_2 : W2.cell? ⟨g1, 2, none⟩ = some (.int .i64 (a 1)) := (blk_cell BKg1.out 2).trans rfl; have hfg1_2 := blk_frozen BKg1.out 2; have hcg1_3 : W2.cell? ⟨g1, 3, none⟩ = some (.int .i64 (a 2)) := (blk_cell BKg1.out 3).trans rfl; have hfg1_3 := blk_frozen BKg1.out 3; have hcg1_4 : W2.cell? ⟨g1, 4, none⟩ = some (.int .i64 (a 3)) := (blk_cell BKg1.out 4).trans rfl; have hfg1_4 := blk_frozen BKg1.out 4; have hcg1_5 : W2.cell? ⟨g1, 5, none⟩ = some (.int .i64 (a 4)) := (blk_cell BKg1.out 5).trans rfl; have hfg1_5 := blk_frozen BKg1.out 5; have hcg1_6 : W2.cell? ⟨g1, 6, none⟩ = some (.int .i64 (a 5)) := (blk_cell BKg1.out 6).trans rfl; have hfg1_6 := blk_frozen BKg1.out 6; have hcg1_7 : W2.cell? ⟨g1, 7, none⟩ = some (.int .i64 (a 6)) := (blk_cell BKg1.out 7).trans rfl; have hfg1_7 := blk_frozen BKg1.out 7; have hcg1_8 : W2.cell? ⟨g1, 8, none⟩ = some (.int .i64 (a 7)) := (blk_cell BKg1.out 8).trans rfl; have hfg1_8 := blk_frozen BKg1.out 8; have hcg2_0 : W2.cell? ⟨g2, 0, none⟩ = some (.bool mb) := (blk_cell BKg2.out 0).trans rfl; have hfg2_0 := blk_frozen BKg2.out 0; have hcg2_1 : W2.cell? ⟨g2, 1, none⟩ = some (.int .i64 (b 0)) := (blk_cell BKg2.out 1).trans rfl; have hfg2_1 := blk_frozen BKg2.out 1; have hcg2_2 : W2.cell? ⟨g2, 2, none⟩ = some (.int .i64 (b 1)) := (blk_cell BKg2.out 2).trans rfl; have hfg2_2 := blk_frozen BKg2.out 2; have hcg2_3 : W2.cell? ⟨g2, 3, none⟩ = some (.int .i64 (b 2)) := (blk_cell BKg2.out 3).trans rfl; have hfg2_3 := blk_frozen BKg2.out 3; have hcg2_4 : W2.cell? ⟨g2, 4, none⟩ = some (.int .i64 (b 3)) := (blk_cell BKg2.out 4).trans rfl; have hfg2_4 := blk_frozen BKg2.out 4; have hcg2_5 : W2.cell? ⟨g2, 5, none⟩ = some (.int .i64 (b 4)) := (blk_cell BKg2.out 5).trans rfl; have hfg2_5 := blk_frozen BKg2.out 5; have hcg2_6 : W2.cell? ⟨g2, 6, none⟩ = some (.int .i64 (b 5)) := (blk_cell BKg2.out 6).trans rfl; have hfg2_6 := blk_frozen BKg2.out 6; have hcg2_7 : W2.cell? ⟨g2, 7, none⟩ = some (.int .i64 (b 6)) := (blk_cell BKg2.out 7).trans rfl; have hfg2_7 := blk_frozen BKg2.out 7; have hcg2_8 : W2.cell? ⟨g2, 8, none⟩ = some (.int .i64 (b 7)) := (blk_cell BKg2.out 8).trans rfl; have hfg2_8 := blk_frozen BKg2.out 8))
  go_loopw [5] (fun vi wr => ∃ (j : Nat), vi = .int .i64 ((j : Int) - 1) ∧ Aside0 (j ≤ 8) ∧ Aside0 (Alike8 a b j) ∧ Aside0 (wr.heap[g1]? = some (.cells (bigA ma a) 60 (0, 0))) ∧ Aside0 (wr.heap[g2]? = some (.cells (bigA mb b) 60 (0, 0))) ∧ Aside0 (Below w.heap.size w wr)) (fun vi _ => (intOf vi + 1).toNat)
  case atStart => exact ⟨8, rfl, ⟨by omega⟩, ⟨fun i h1 h2 => by omega⟩, BKg1, BKg2, HB⟩
  case round =>
    clear BKg1 BKg2 HB hcg1_0 hfg1_0 hcg1_1 hfg1_1 hcg1_2 hfg1_2 hcg1_3 hfg1_3 hcg1_4 hfg1_4 hcg1_5 hfg1_5 hcg1_6 hfg1_6 hcg1_7 hfg1_7 hcg1_8 hfg1_8 hcg2_0 hfg2_0 hcg2_1 hfg2_1 hcg2_2 hfg2_2 hcg2_3 hfg2_3 hcg2_4 hfg2_4 hcg2_5 hfg2_5 hcg2_6 hfg2_6 hcg2_7 hfg2_7 hcg2_8 hfg2_8
    obtain ⟨j, rfl, Hj, HA, BKg1, BKg2, HB⟩ := hrel
    have hj8 := Hj.out
    cases j with
    | zero =>
      have he := Lib.hid (cmpI_eq (by rw [← ha.val, ← hb.val]; exact HA.out.eq) : cmpI A B = 0)
      rw [show (((0 : Nat) : Int) - 1) = -1 from rfl]
      go_wp2
      go_ret
      exact ⟨ret_int he.out.symm, HB.out⟩
    | succ j =>
      rw [show (((j + 1 : Nat) : Int) - 1) = (j : Int) from by omega]
      obtain ⟨x, hx⟩ : ∃ x, x = a j := ⟨_, rfl⟩
      obtain ⟨y, hy⟩ : ∃ y, y = b j := ⟨_, rfl⟩
      have c1 : wr.cell? ⟨g1, 1 + j, none⟩ = some (.int .i64 x) := (blk_cell BKg1.out (1 + j)).trans ((big_get ma a (by omega)).trans (by rw [hx]))
      have c2 : wr.cell? ⟨g2, 1 + j, none⟩ = some (.int .i64 y) := (blk_cell BKg2.out (1 + j)).trans ((big_get mb b (by omega)).trans (by rw [hy]))
      have HX := Lib.hid hx; have HY := Lib.hid hy; clear hx hy
      rcases Int.lt_trichotomy x y with q | q | q
      · have he := Lib.hid (cmpI_lt (show A < B from by rw [← ha.val, ← hb.val]; exact cmp_lt ha.dig hb.dig (j := j) (by omega) (by rw [← HX.out, ← HY.out]; exact q) (fun i h1 h2 => HA.out i (by omega) h2)))
        go_wp2
        go_quiet (fail)
        go_wp2
        go_ret
        exact ⟨ret_int he.out.symm, pw_below_drewN HB.out nq⟩
      · have q1 : decide (x < y) = false := decide_eq_false (by omega)
        have q2 : decide (y < x) = false := decide_eq_false (by omega)
        have hq := Lib.hid q; clear q
        go_wp2
        go_quiet (fail)
        go_wp2
        go_quiet (fail)
        go_wp2
        exact ⟨⟨j, rfl, ⟨by omega⟩, ⟨HA.out.step (by rw [← HX.out, ← HY.out]; exact hq.out)⟩, ⟨BKg1.out⟩, ⟨BKg2.out⟩, ⟨pw_below_drewN HB.out _⟩⟩, by simp [intOf]⟩
      · have he := Lib.hid (cmpI_gt (show B < A from by rw [← ha.val, ← hb.val]; exact cmp_lt hb.dig ha.dig (j := j) (by omega) (by rw [← HX.out, ← HY.out]; exact q) (fun i h1 h2 => (HA.out i (by omega) h2).symm)))
        have q1 : decide (x < y) = false := decide_eq_false (by omega)
        go_wp2
        go_quiet (fail)
        go_wp2
        go_quiet (fail)
        go_wp2
        go_ret
        exact ⟨ret_int he.out.symm, pw_below_drewN (pw_below_drewN HB.out _) _⟩
end Go.Proofs.YtcnibfancjofhaaDoor

/- The reference's great numbers: over numbers. -/
namespace Go.Proofs.YtcnibfancjofhaaDoor
open Go.RowKit Go.Proofs.YtcnibfancjofhaaDoorW.PrintWords Go.Proofs.YtcnibfancjofhaaDoorW.PrintLast Go.Proofs.YtcnibfancjofhaaDoorW.PrintMore
set_option linter.unusedVariables false
set_option linter.unusedSimpArgs false
theorem satS_sat {n : Int} {m : Bool} (h : 0 ≤ n) : satS n m = sat (if m = true then -n else n) := by
  unfold satS sat; cases m <;> simp <;> (repeat' split) <;> omega
theorem ab_natAbs (a : Int) : ab a = (a.natAbs : Int) := by unfold ab; split <;> omega
theorem mulF_rep (a b : Int) : mulF a b = sat (if (!(decide (a < 0) == decide (b < 0))) = true then -((a.natAbs : Int) * (b.natAbs : Int) / 4294967296) else (a.natAbs : Int) * (b.natAbs : Int) / 4294967296) := by
  have h := ab_mul_nonneg a b
  unfold mulF ng
  rw [ab_natAbs, ab_natAbs] at h ⊢
  rw [satS_sat h]
  rfl
theorem divF_rep (a b : Int) : divF a b = sat (if (!(decide (a < 0) == decide (b < 0))) = true then -((a.natAbs : Int) * 4294967296 / (b.natAbs : Int)) else (a.natAbs : Int) * 4294967296 / (b.natAbs : Int)) := by
  have h := divF_nonneg a b
  unfold divF ng
  rw [ab_natAbs, ab_natAbs] at h ⊢
  rw [satS_sat h]
  rfl
theorem fromF_rep (a : Int) : fromF a = sat (if decide (a < 0) = true then -((a.natAbs : Int) * 4294967296) else (a.natAbs : Int) * 4294967296) := by
  unfold fromF
  rw [ab_natAbs, satS_sat (by omega)]
theorem toF_rep (a : Int) : toF a = sat (if decide (a < 0) = true then -((a.natAbs : Int) / 4294967296) else (a.natAbs : Int) / 4294967296) := by
  unfold toF
  rw [ab_natAbs, satS_sat (by omega)]
theorem i64_of {a : Int} (h : In64 a) : I64 a := ⟨h.1, h.2⟩
theorem ret_big {m : Bool} {D E : Nat → Int} (h : bigA m D = bigA m E) : Ending.returned (.agg (bigA m D)) = .returned (.agg (bigA m E)) := by rw [h]
theorem of_ex (n : Int) (w : World) (hn : I64 n) : Calls Tryd.prog 40 #[.int .i64 n] w fun e w' => e = .returned (.agg #[.bool (decide (n < 0)), .int .i64 (cdig (n.natAbs : Int) 0), .int .i64 (cdig (n.natAbs : Int) 1), .int .i64 (cdig (n.natAbs : Int) 2), .int .i64 (cdig (n.natAbs : Int) 3), .int .i64 (cdig (n.natAbs : Int) 4), .int .i64 (cdig (n.natAbs : Int) 5), .int .i64 (cdig (n.natAbs : Int) 6), .int .i64 (cdig (n.natAbs : Int) 7)]) ∧ Below w.heap.size w w' := by
  by_cases h : n < 0
  · rw [decide_eq_true h]
    exact (of_neg n w hn h).mono fun _ _ ⟨D, he, hr, hb⟩ => ⟨he.trans (ret_big (hr.cells true)), hb⟩
  · rw [decide_eq_false h]
    exact (of_pos n w hn (by omega)).mono fun _ _ ⟨D, he, hr, hb⟩ => ⟨he.trans (ret_big (hr.cells false)), hb⟩
theorem rep_abs {n : Int} (hn : I64 n) : Rep (cdig (n.natAbs : Int)) (n.natAbs : Int) ∧ (n.natAbs : Int) < 18446744073709551616 := by
  have h1 := hn.1; have h2 := hn.2
  exact ⟨rep_cdig (by omega) (by omega), by omega⟩
theorem times_ex (ma mb : Bool) (A B : Int) (w : World) (hA : Rep (cdig A) A) (hB : Rep (cdig B) B) (hA1 : A < 18446744073709551616) (hB1 : B < 18446744073709551616) :
    Calls Tryd.prog 50 #[.agg #[.bool ma, .int .i64 (cdig A 0), .int .i64 (cdig A 1), .int .i64 (cdig A 2), .int .i64 (cdig A 3), .int .i64 (cdig A 4), .int .i64 (cdig A 5), .int .i64 (cdig A 6), .int .i64 (cdig A 7)], .agg #[.bool mb, .int .i64 (cdig B 0), .int .i64 (cdig B 1), .int .i64 (cdig B 2), .int .i64 (cdig B 3), .int .i64 (cdig B 4), .int .i64 (cdig B 5), .int .i64 (cdig B 6), .int .i64 (cdig B 7)]] w fun e w' => e = .returned (.agg #[.bool (!(ma == mb)), .int .i64 (cdig (A * B) 0), .int .i64 (cdig (A * B) 1), .int .i64 (cdig (A * B) 2), .int .i64 (cdig (A * B) 3), .int .i64 (cdig (A * B) 4), .int .i64 (cdig (A * B) 5), .int .i64 (cdig (A * B) 6), .int .i64 (cdig (A * B) 7)]) ∧ Below w.heap.size w w' :=
  (times_calls ma mb (cdig A) (cdig B) A B w hA hB hA1 hB1).mono fun _ _ ⟨D, he, hr, hb⟩ => ⟨he.trans (ret_big (hr.cells _)), hb⟩
theorem mul_rep {A B : Int} (hA : Rep (cdig A) A) (hB : Rep (cdig B) B) (hA1 : A < 18446744073709551616) (hB1 : B < 18446744073709551616) : Rep (cdig (A * B)) (A * B) := by
  have h1 := hA.nonneg; have h2 := hB.nonneg
  have h3 := Int.mul_nonneg h1 h2
  have h4 : A * B ≤ 18446744073709551615 * 18446744073709551615 := Int.mul_le_mul (by omega) (by omega) h2 (by omega)
  exact rep_cdig h3 (by omega)
theorem shift_ex (m : Bool) (V : Int) (w : World) (hV : Rep (cdig V) V) : Calls Tryd.prog 48 #[.agg #[.bool m, .int .i64 (cdig V 0), .int .i64 (cdig V 1), .int .i64 (cdig V 2), .int .i64 (cdig V 3), .int .i64 (cdig V 4), .int .i64 (cdig V 5), .int .i64 (cdig V 6), .int .i64 (cdig V 7)], .int .i64 (-2)] w fun e w' => e = .returned (.agg #[.bool m, .int .i64 (cdig (V / 4294967296) 0), .int .i64 (cdig (V / 4294967296) 1), .int .i64 (cdig (V / 4294967296) 2), .int .i64 (cdig (V / 4294967296) 3), .int .i64 (cdig (V / 4294967296) 4), .int .i64 (cdig (V / 4294967296) 5), .int .i64 (cdig (V / 4294967296) 6), .int .i64 (cdig (V / 4294967296) 7)]) ∧ Below w.heap.size w w' :=
  (shift_m2 m (cdig V) V w hV).mono fun _ _ ⟨D, he, hr, hb⟩ => ⟨he.trans (ret_big (hr.cells _)), hb⟩
theorem stop_ex (m : Bool) (V : Int) (w : World) (hV : Rep (cdig V) V) : Calls Tryd.prog 46 #[.agg #[.bool m, .int .i64 (cdig V 0), .int .i64 (cdig V 1), .int .i64 (cdig V 2), .int .i64 (cdig V 3), .int .i64 (cdig V 4), .int .i64 (cdig V 5), .int .i64 (cdig V 6), .int .i64 (cdig V 7)]] w fun e w' => e = .returned (.int .i64 (sat (if m then -V else V))) ∧ Below w.heap.size w w' :=
  stop_calls m (cdig V) V w hV
theorem compare_ex (ma mb : Bool) (A B : Int) (w : World) (hA : Rep (cdig A) A) (hB : Rep (cdig B) B) :
    Calls Tryd.prog 49 #[.agg #[.bool ma, .int .i64 (cdig A 0), .int .i64 (cdig A 1), .int .i64 (cdig A 2), .int .i64 (cdig A 3), .int .i64 (cdig A 4), .int .i64 (cdig A 5), .int .i64 (cdig A 6), .int .i64 (cdig A 7)], .agg #[.bool mb, .int .i64 (cdig B 0), .int .i64 (cdig B 1), .int .i64 (cdig B 2), .int .i64 (cdig B 3), .int .i64 (cdig B 4), .int .i64 (cdig B 5), .int .i64 (cdig B 6), .int .i64 (cdig B 7)]] w fun e w' => e = .returned (.int .i64 (cmpI A B)) ∧ Below w.heap.size w w' :=
  compare_calls ma mb (cdig A) (cdig B) A B w hA hB
set_option maxHeartbeats 4000000 in
set_option maxRecDepth 100000 in
theorem rmul_calls (a b : Int) (w : World) (ha : I64 a) (hb : I64 b) :
    Calls Tryd.prog 25 #[.int .i64 a, .int .i64 b] w
      fun e w' => e = .returned (.int .i64 (mulF a b)) ∧ Below w.heap.size w w' := by
  have HB := Aside0.mk (Below.refl w.heap.size w)
  obtain ⟨r1, r2⟩ := rep_abs ha; obtain ⟨q1, q2⟩ := rep_abs hb
  have r3 := mul_rep r1 q1 r2 q2
  have r4 : Rep (cdig ((a.natAbs : Int) * (b.natAbs : Int) / 4294967296)) ((a.natAbs : Int) * (b.natAbs : Int) / 4294967296) := rep_cdig (by have := r3.nonneg; omega) (by have := r3.nonneg; have := r3.lt; omega)
  have e1 : mulF a b = sat (if (!(decide (a < 0) == decide (b < 0))) = true then -((a.natAbs : Int) * (b.natAbs : Int) / 4294967296) else (a.natAbs : Int) * (b.natAbs : Int) / 4294967296) := mulF_rep a b
  have E1 := Lib.hid e1; clear e1
  go_enter Tryd.func25, Tryd.ntmps25
  go_wp2_with fail
  ((with_reducible refine (of_ex _ _ ha).mono ?_); rintro e_ W1 ⟨rfl, hb_⟩)
  have n_ := Aside0.mk (below_step HB.out hb_); clear HB; have HB := n_; clear n_
  clear hb_
  go_wp2_with fail
  ((with_reducible refine (of_ex _ _ hb).mono ?_); rintro e_ W2 ⟨rfl, hb_⟩)
  have n_ := Aside0.mk (below_step HB.out hb_); clear HB; have HB := n_; clear n_
  clear hb_
  go_wp2_with fail
  ((with_reducible refine (times_ex (decide (a < 0)) (decide (b < 0)) (a.natAbs : Int) (b.natAbs : Int) _ r1 q1 r2 q2).mono ?_); rintro e_ W3 ⟨rfl, hb_⟩)
  have n_ := Aside0.mk (below_step HB.out hb_); clear HB; have HB := n_; clear n_
  clear hb_
  go_wp2_with fail
  ((with_reducible refine (shift_ex (!(decide (a < 0) == decide (b < 0))) ((a.natAbs : Int) * (b.natAbs : Int)) _ r3).mono ?_); rintro e_ W4 ⟨rfl, hb_⟩)
  have n_ := Aside0.mk (below_step HB.out hb_); clear HB; have HB := n_; clear n_
  clear hb_
  go_wp2_with fail
  ((with_reducible refine (stop_ex (!(decide (a < 0) == decide (b < 0))) ((a.natAbs : Int) * (b.natAbs : Int) / 4294967296) _ r4).mono ?_); rintro e_ W5 ⟨rfl, hb_⟩)
  have n_ := Aside0.mk (below_step HB.out hb_); clear HB; have HB := n_; clear n_
  clear hb_
  rw [← E1.out]
  go_wp2
  go_ret
  exact ⟨rfl, (by repeat (first | (with_reducible first | exact HB.out | apply below_alloc | apply pw_below_drewN | apply below_drew1) | exact HB.out))⟩
end Go.Proofs.YtcnibfancjofhaaDoor
