/- The reference's great numbers: Shift, Stop, Compare. -/
import Derived.Test.YtcnibfancjofhaaDoorRfB
namespace Go.Proofs.YtcnibfancjofhaaDoor
open Go.RowKit Go.Proofs.YtcnibfancjofhaaDoorW.PrintWords Go.Proofs.YtcnibfancjofhaaDoorW.PrintLast Go.Proofs.YtcnibfancjofhaaDoorW.PrintMore
set_option linter.unusedVariables false
set_option linter.unusedSimpArgs false
set_option maxHeartbeats 8000000 in
set_option maxRecDepth 100000 in
theorem shift_m2 (m : Bool) (a : Nat → Int) (V : Int) (w : World) (ha : Rep a V)  :
    Calls Tryd.prog 48 #[.agg (bigA m a), .int .i64 (-2)] w
      fun e w' => ∃ D, e = .returned (.agg (bigA m D)) ∧ Rep D (V / 4294967296) ∧ Below w.heap.size w w' := by
  have HB := Aside0.mk (Below.refl w.heap.size w)
  go_enter Tryd.func48, Tryd.ntmps48
  go_wp2_with (first | ((with_reducible refine gate_dst (N := 2) rfl ?_); refine box_event ?hg (N := 2) ?hd (cs := (bigA m a)) (t := 60) ?hr ?_; (case hd => rfl); (case hg => rfl); (case hr => first | (go_simp; done) | (go_simp; rfl)); intro g2 hg_ W1 hbox_ hb_; have GEg2 := Aside0.mk ((by rw [hg_]; exact (below_size HB.out)) : w.heap.size ≤ g2); clear hg_; have n_ := Aside0.mk (below_step HB.out hb_); clear HB; have HB := n_; clear n_; have BKg2 := Aside0.mk hbox_; clear hbox_ hb_; have hcg2_0 : W1.cell? ⟨g2, 0, none⟩ = some (.bool m) := (blk_cell BKg2.out 0).trans rfl; have hfg2_0 := blk_frozen BKg2.out 0; have hcg2_1 : W1.cell? ⟨g2, 1, none⟩ = some (.int .i64 (a 0)) := (blk_cell BKg2.out 1).trans rfl; have hfg2_1 := blk_frozen BKg2.out 1; have hcg2_2 : W1.cell? ⟨g2, 2, none⟩ = some (.int .i64 (a 1)) := (blk_cell BKg2.out 2).trans rfl; have hfg2_2 := blk_frozen BKg2.out 2; have hcg2_3 : W1.cell? ⟨g2, 3, none⟩ = some (.int .i64 (a 2)) := (blk_cell BKg2.out 3).trans rfl; have hfg2_3 := blk_frozen BKg2.out 3; have hcg2_4 : W1.cell? ⟨g2, 4, none⟩ = some (.int .i64 (a 3)) := (blk_cell BKg2.out 4).trans rfl; have hfg2_4 := blk_frozen BKg2.out 4; have hcg2_5 : W1.cell? ⟨g2, 5, none⟩ = some (.int .i64 (a 4)) := (blk_cell BKg2.out 5).trans rfl; have hfg2_5 := blk_frozen BKg2.out 5; have hcg2_6 : W1.cell? ⟨g2, 6, none⟩ = some (.int .i64 (a 5)) := (blk_cell BKg2.out 6).trans rfl; have hfg2_6 := blk_frozen BKg2.out 6; have hcg2_7 : W1.cell? ⟨g2, 7, none⟩ = some (.int .i64 (a 6)) := (blk_cell BKg2.out 7).trans rfl; have hfg2_7 := blk_frozen BKg2.out 7; have hcg2_8 : W1.cell? ⟨g2, 8, none⟩ = some (.int .i64 (a 7)) := (blk_cell BKg2.out 8).trans rfl; have hfg2_8 := blk_frozen BKg2.out 8) | ((with_reducible refine gate_dst (N := 4) rfl ?_); refine box_event ?hg (N := 4) ?hd (cs := #[.bool false, .int .i64 0, .int .i64 0, .int .i64 0, .int .i64 0, .int .i64 0, .int .i64 0, .int .i64 0, .int .i64 0]) (t := 60) ?hr ?_; (case hd => rfl); (case hg => rfl); (case hr => first | (go_simp; done) | (go_simp; rfl)); intro g3 hg_ W2 hbox_ hb_; have GEg3 := Aside0.mk ((by rw [hg_]; exact (below_size HB.out)) : w.heap.size ≤ g3); have NBg2_g3 : g2 ≠ g3 := (by rw [hg_]; exact Nat.ne_of_lt (blk_lt BKg2.out)); have NBg3_g2 : g3 ≠ g2 := Ne.symm NBg2_g3; clear hg_; have n_ := Aside0.mk (blk_below BKg2.out hb_); clear BKg2; have BKg2 := n_; clear n_; clear hcg2_0 hfg2_0; clear hcg2_1 hfg2_1; clear hcg2_2 hfg2_2; clear hcg2_3 hfg2_3; clear hcg2_4 hfg2_4; clear hcg2_5 hfg2_5; clear hcg2_6 hfg2_6; clear hcg2_7 hfg2_7; clear hcg2_8 hfg2_8; have n_ := Aside0.mk (below_step HB.out hb_); clear HB; have HB := n_; clear n_; have BKg3 := Aside0.mk hbox_; clear hbox_ hb_; have hcg2_0 : W2.cell? ⟨g2, 0, none⟩ = some (.bool m) := (blk_cell BKg2.out 0).trans rfl; have hfg2_0 := blk_frozen BKg2.out 0; have hcg2_1 : W2.cell? ⟨g2, 1, none⟩ = some (.int .i64 (a 0)) := (blk_cell BKg2.out 1).trans rfl; have hfg2_1 := blk_frozen BKg2.out 1; have hcg2_2 : W2.cell? ⟨g2, 2, none⟩ = some (.int .i64 (a 1)) := (blk_cell BKg2.out 2).trans rfl; have hfg2_2 := blk_frozen BKg2.out 2; have hcg2_3 : W2.cell? ⟨g2, 3, none⟩ = some (.int .i64 (a 2)) := (blk_cell BKg2.out 3).trans rfl; have hfg2_3 := blk_frozen BKg2.out 3; have hcg2_4 : W2.cell? ⟨g2, 4, none⟩ = some (.int .i64 (a 3)) := (blk_cell BKg2.out 4).trans rfl; have hfg2_4 := blk_frozen BKg2.out 4; have hcg2_5 : W2.cell? ⟨g2, 5, none⟩ = some (.int .i64 (a 4)) := (blk_cell BKg2.out 5).trans rfl; have hfg2_5 := blk_frozen BKg2.out 5; have hcg2_6 : W2.cell? ⟨g2, 6, none⟩ = some (.int .i64 (a 5)) := (blk_cell BKg2.out 6).trans rfl; have hfg2_6 := blk_frozen BKg2.out 6; have hcg2_7 : W2.cell? ⟨g2, 7, none⟩ = some (.int .i64 (a 6)) := (blk_cell BKg2.out 7).trans rfl; have hfg2_7 := blk_frozen BKg2.out 7; have hcg2_8 : W2.cell? ⟨g2, 8, none⟩ = some (.int .i64 (a 7)) := (blk_cell BKg2.out 8).trans rfl; have hfg2_8 := blk_frozen BKg2.out 8; have hcg3_0 : W2.cell? ⟨g3, 0, none⟩ = some (.bool false) := (blk_cell BKg3.out 0).trans rfl; have hfg3_0 := blk_frozen BKg3.out 0; have hcg3_1 : W2.cell? ⟨g3, 1, none⟩ = some (.int .i64 0) := (blk_cell BKg3.out 1).trans rfl; have hfg3_1 := blk_frozen BKg3.out 1; have hcg3_2 : W2.cell? ⟨g3, 2, none⟩ = some (.int .i64 0) := (blk_cell BKg3.out 2).trans rfl; have hfg3_2 := blk_frozen BKg3.out 2; have hcg3_3 : W2.cell? ⟨g3, 3, none⟩ = some (.int .i64 0) := (blk_cell BKg3.out 3).trans rfl; have hfg3_3 := blk_frozen BKg3.out 3; have hcg3_4 : W2.cell? ⟨g3, 4, none⟩ = some (.int .i64 0) := (blk_cell BKg3.out 4).trans rfl; have hfg3_4 := blk_frozen BKg3.out 4; have hcg3_5 : W2.cell? ⟨g3, 5, none⟩ = some (.int .i64 0) := (blk_cell BKg3.out 5).trans rfl; have hfg3_5 := blk_frozen BKg3.out 5; have hcg3_6 : W2.cell? ⟨g3, 6, none⟩ = some (.int .i64 0) := (blk_cell BKg3.out 6).trans rfl; have hfg3_6 := blk_frozen BKg3.out 6; have hcg3_7 : W2.cell? ⟨g3, 7, none⟩ = some (.int .i64 0) := (blk_cell BKg3.out 7).trans rfl; have hfg3_7 := blk_frozen BKg3.out 7; have hcg3_8 : W2.cell? ⟨g3, 8, none⟩ = some (.int .i64 0) := (blk_cell BKg3.out 8).trans rfl; have hfg3_8 := blk_frozen BKg3.out 8) | ((with_reducible refine gate_dst (N := 5) rfl ?_); refine box_event ?hg (N := 5) ?hd (cs := #[.bool false, .int .i64 0, .int .i64 0, .int .i64 0, .int .i64 0, .int .i64 0, .int .i64 0, .int .i64 0, .int .i64 0]) (t := 60) ?hr ?_; (case hd => rfl); (case hg => rfl); (case hr => first | (go_simp; done) | (go_simp; rfl)); intro g5 hg_ W3 hbox_ hb_; have GEg5 := Aside0.mk ((by rw [hg_]; exact (below_size HB.out)) : w.heap.size ≤ g5); have NBg2_g5 : g2 ≠ g5 := (by rw [hg_]; exact Nat.ne_of_lt (blk_lt BKg2.out)); have NBg5_g2 : g5 ≠ g2 := Ne.symm NBg2_g5; have NBg3_g5 : g3 ≠ g5 := (by rw [hg_]; exact Nat.ne_of_lt (blk_lt BKg3.out)); have NBg5_g3 : g5 ≠ g3 := Ne.symm NBg3_g5; clear hg_; have n_ := Aside0.mk (blk_below BKg2.out hb_); clear BKg2; have BKg2 := n_; clear n_; clear hcg2_0 hfg2_0; clear hcg2_1 hfg2_1; clear hcg2_2 hfg2_2; clear hcg2_3 hfg2_3; clear hcg2_4 hfg2_4; clear hcg2_5 hfg2_5; clear hcg2_6 hfg2_6; clear hcg2_7 hfg2_7; clear hcg2_8 hfg2_8; have n_ := Aside0.mk (blk_below BKg3.out hb_); clear BKg3; have BKg3 := n_; clear n_; clear hcg3_0 hfg3_0; clear hcg3_1 hfg3_1; clear hcg3_2 hfg3_2; clear hcg3_3 hfg3_3; clear hcg3_4 hfg3_4; clear hcg3_5 hfg3_5; clear hcg3_6 hfg3_6; clear hcg3_7 hfg3_7; clear hcg3_8 hfg3_8; have n_ := Aside0.mk (below_step HB.out hb_); clear HB; have HB := n_; clear n_; have BKg5 := Aside0.mk hbox_; clear hbox_ hb_; have hcg2_0 : W3.cell? ⟨g2, 0, none⟩ = some (.bool m) := (blk_cell BKg2.out 0).trans rfl; have hfg2_0 := blk_frozen BKg2.out 0; have hcg2_1 : W3.cell? ⟨g2, 1, none⟩ = some (.int .i64 (a 0)) := (blk_cell BKg2.out 1).trans rfl; have hfg2_1 := blk_frozen BKg2.out 1; have hcg2_2 : W3.cell? ⟨g2, 2, none⟩ = some (.int .i64 (a 1)) := (blk_cell BKg2.out 2).trans rfl; have hfg2_2 := blk_frozen BKg2.out 2; have hcg2_3 : W3.cell? ⟨g2, 3, none⟩ = some (.int .i64 (a 2)) := (blk_cell BKg2.out 3).trans rfl; have hfg2_3 := blk_frozen BKg2.out 3; have hcg2_4 : W3.cell? ⟨g2, 4, none⟩ = some (.int .i64 (a 3)) := (blk_cell BKg2.out 4).trans rfl; have hfg2_4 := blk_frozen BKg2.out 4; have hcg2_5 : W3.cell? ⟨g2, 5, none⟩ = some (.int .i64 (a 4)) := (blk_cell BKg2.out 5).trans rfl; have hfg2_5 := blk_frozen BKg2.out 5; have hcg2_6 : W3.cell? ⟨g2, 6, none⟩ = some (.int .i64 (a 5)) := (blk_cell BKg2.out 6).trans rfl; have hfg2_6 := blk_frozen BKg2.out 6; have hcg2_7 : W3.cell? ⟨g2, 7, none⟩ = some (.int .i64 (a 6)) := (blk_cell BKg2.out 7).trans rfl; have hfg2_7 := blk_frozen BKg2.out 7; have hcg2_8 : W3.cell? ⟨g2, 8, none⟩ = some (.int .i64 (a 7)) := (blk_cell BKg2.out 8).trans rfl; have hfg2_8 := blk_frozen BKg2.out 8; have hcg3_0 : W3.cell? ⟨g3, 0, none⟩ = some (.bool false) := (blk_cell BKg3.out 0).trans rfl; have hfg3_0 := blk_frozen BKg3.out 0; have hcg3_1 : W3.cell? ⟨g3, 1, none⟩ = some (.int .i64 0) := (blk_cell BKg3.out 1).trans rfl; have hfg3_1 := blk_frozen BKg3.out 1; have hcg3_2 : W3.cell? ⟨g3, 2, none⟩ = some (.int .i64 0) := (blk_cell BKg3.out 2).trans rfl; have hfg3_2 := blk_frozen BKg3.out 2; have hcg3_3 : W3.cell? ⟨g3, 3, none⟩ = some (.int .i64 0) := (blk_cell BKg3.out 3).trans rfl; have hfg3_3 := blk_frozen BKg3.out 3; have hcg3_4 : W3.cell? ⟨g3, 4, none⟩ = some (.int .i64 0) := (blk_cell BKg3.out 4).trans rfl; have hfg3_4 := blk_frozen BKg3.out 4; have hcg3_5 : W3.cell? ⟨g3, 5, none⟩ = some (.int .i64 0) := (blk_cell BKg3.out 5).trans rfl; have hfg3_5 := blk_frozen BKg3.out 5; have hcg3_6 : W3.cell? ⟨g3, 6, none⟩ = some (.int .i64 0) := (blk_cell BKg3.out 6).trans rfl; have hfg3_6 := blk_frozen BKg3.out 6; have hcg3_7 : W3.cell? ⟨g3, 7, none⟩ = some (.int .i64 0) := (blk_cell BKg3.out 7).trans rfl; have hfg3_7 := blk_frozen BKg3.out 7; have hcg3_8 : W3.cell? ⟨g3, 8, none⟩ = some (.int .i64 0) := (blk_cell BKg3.out 8).trans rfl; have hfg3_8 := blk_frozen BKg3.out 8; have hcg5_0 : W3.cell? ⟨g5, 0, none⟩ = some (.bool false) := (blk_cell BKg5.out 0).trans rfl; have hfg5_0 := blk_frozen BKg5.out 0; have hcg5_1 : W3.cell? ⟨g5, 1, none⟩ = some (.int .i64 0) := (blk_cell BKg5.out 1).trans rfl; have hfg5_1 := blk_frozen BKg5.out 1; have hcg5_2 : W3.cell? ⟨g5, 2, none⟩ = some (.int .i64 0) := (blk_cell BKg5.out 2).trans rfl; have hfg5_2 := blk_frozen BKg5.out 2; have hcg5_3 : W3.cell? ⟨g5, 3, none⟩ = some (.int .i64 0) := (blk_cell BKg5.out 3).trans rfl; have hfg5_3 := blk_frozen BKg5.out 3; have hcg5_4 : W3.cell? ⟨g5, 4, none⟩ = some (.int .i64 0) := (blk_cell BKg5.out 4).trans rfl; have hfg5_4 := blk_frozen BKg5.out 4; have hcg5_5 : W3.cell? ⟨g5, 5, none⟩ = some (.int .i64 0) := (blk_cell BKg5.out 5).trans rfl; have hfg5_5 := blk_frozen BKg5.out 5; have hcg5_6 : W3.cell? ⟨g5, 6, none⟩ = some (.int .i64 0) := (blk_cell BKg5.out 6).trans rfl; have hfg5_6 := blk_frozen BKg5.out 6; have hcg5_7 : W3.cell? ⟨g5, 7, none⟩ = some (.int .i64 0) := (blk_cell BKg5.out 7).trans rfl; have hfg5_7 := blk_frozen BKg5.out 7; have hcg5_8 : W3.cell? ⟨g5, 8, none⟩ = some (.int .i64 0) := (blk_cell BKg5.out 8).trans rfl; have hfg5_8 := blk_frozen BKg5.out 8))
  have n_ : Aside0 ((((((((((W3.setCell ⟨g5, 0, none⟩ (.bool m)).setCell ⟨g5, 1, none⟩ (.int .i64 0)).setCell ⟨g5, 2, none⟩ (.int .i64 0)).setCell ⟨g5, 3, none⟩ (.int .i64 0)).setCell ⟨g5, 4, none⟩ (.int .i64 0)).setCell ⟨g5, 5, none⟩ (.int .i64 0)).setCell ⟨g5, 6, none⟩ (.int .i64 0)).setCell ⟨g5, 7, none⟩ (.int .i64 0)).setCell ⟨g5, 8, none⟩ (.int .i64 0)).heap[g5]? = some (.cells #[.bool m, .int .i64 0, .int .i64 0, .int .i64 0, .int .i64 0, .int .i64 0, .int .i64 0, .int .i64 0, .int .i64 0] 60 (0, 0))) := ⟨by refine blk_put (cs := #[.bool m, .int .i64 0, .int .i64 0, .int .i64 0, .int .i64 0, .int .i64 0, .int .i64 0, .int .i64 0, .int .i64 0]) ?_ 8 _ rfl; refine blk_put (cs := #[.bool m, .int .i64 0, .int .i64 0, .int .i64 0, .int .i64 0, .int .i64 0, .int .i64 0, .int .i64 0, .int .i64 0]) ?_ 7 _ rfl; refine blk_put (cs := #[.bool m, .int .i64 0, .int .i64 0, .int .i64 0, .int .i64 0, .int .i64 0, .int .i64 0, .int .i64 0, .int .i64 0]) ?_ 6 _ rfl; refine blk_put (cs := #[.bool m, .int .i64 0, .int .i64 0, .int .i64 0, .int .i64 0, .int .i64 0, .int .i64 0, .int .i64 0, .int .i64 0]) ?_ 5 _ rfl; refine blk_put (cs := #[.bool m, .int .i64 0, .int .i64 0, .int .i64 0, .int .i64 0, .int .i64 0, .int .i64 0, .int .i64 0, .int .i64 0]) ?_ 4 _ rfl; refine blk_put (cs := #[.bool m, .int .i64 0, .int .i64 0, .int .i64 0, .int .i64 0, .int .i64 0, .int .i64 0, .int .i64 0, .int .i64 0]) ?_ 3 _ rfl; refine blk_put (cs := #[.bool m, .int .i64 0, .int .i64 0, .int .i64 0, .int .i64 0, .int .i64 0, .int .i64 0, .int .i64 0, .int .i64 0]) ?_ 2 _ rfl; refine blk_put (cs := #[.bool m, .int .i64 0, .int .i64 0, .int .i64 0, .int .i64 0, .int .i64 0, .int .i64 0, .int .i64 0, .int .i64 0]) ?_ 1 _ rfl; refine blk_put (cs := #[.bool false, .int .i64 0, .int .i64 0, .int .i64 0, .int .i64 0, .int .i64 0, .int .i64 0, .int .i64 0, .int .i64 0]) ?_ 0 _ rfl; exact BKg5.out⟩
  have m_ : Aside0 ((((((((((W3.setCell ⟨g5, 0, none⟩ (.bool m)).setCell ⟨g5, 1, none⟩ (.int .i64 0)).setCell ⟨g5, 2, none⟩ (.int .i64 0)).setCell ⟨g5, 3, none⟩ (.int .i64 0)).setCell ⟨g5, 4, none⟩ (.int .i64 0)).setCell ⟨g5, 5, none⟩ (.int .i64 0)).setCell ⟨g5, 6, none⟩ (.int .i64 0)).setCell ⟨g5, 7, none⟩ (.int .i64 0)).setCell ⟨g5, 8, none⟩ (.int .i64 0)).heap[g2]? = some (.cells (bigA m a) 60 (0, 0))) := ⟨(blk_far (blk_far (blk_far (blk_far (blk_far (blk_far (blk_far (blk_far (blk_far BKg2.out NBg2_g5 _) NBg2_g5 _) NBg2_g5 _) NBg2_g5 _) NBg2_g5 _) NBg2_g5 _) NBg2_g5 _) NBg2_g5 _) NBg2_g5 _)⟩
  clear BKg2; have BKg2 := m_; clear m_
  have m_ : Aside0 ((((((((((W3.setCell ⟨g5, 0, none⟩ (.bool m)).setCell ⟨g5, 1, none⟩ (.int .i64 0)).setCell ⟨g5, 2, none⟩ (.int .i64 0)).setCell ⟨g5, 3, none⟩ (.int .i64 0)).setCell ⟨g5, 4, none⟩ (.int .i64 0)).setCell ⟨g5, 5, none⟩ (.int .i64 0)).setCell ⟨g5, 6, none⟩ (.int .i64 0)).setCell ⟨g5, 7, none⟩ (.int .i64 0)).setCell ⟨g5, 8, none⟩ (.int .i64 0)).heap[g3]? = some (.cells #[.bool false, .int .i64 0, .int .i64 0, .int .i64 0, .int .i64 0, .int .i64 0, .int .i64 0, .int .i64 0, .int .i64 0] 60 (0, 0))) := ⟨(blk_far (blk_far (blk_far (blk_far (blk_far (blk_far (blk_far (blk_far (blk_far BKg3.out NBg3_g5 _) NBg3_g5 _) NBg3_g5 _) NBg3_g5 _) NBg3_g5 _) NBg3_g5 _) NBg3_g5 _) NBg3_g5 _) NBg3_g5 _)⟩
  clear BKg3; have BKg3 := m_; clear m_
  have b_ : Aside0 (Below w.heap.size w (((((((((W3.setCell ⟨g5, 0, none⟩ (.bool m)).setCell ⟨g5, 1, none⟩ (.int .i64 0)).setCell ⟨g5, 2, none⟩ (.int .i64 0)).setCell ⟨g5, 3, none⟩ (.int .i64 0)).setCell ⟨g5, 4, none⟩ (.int .i64 0)).setCell ⟨g5, 5, none⟩ (.int .i64 0)).setCell ⟨g5, 6, none⟩ (.int .i64 0)).setCell ⟨g5, 7, none⟩ (.int .i64 0)).setCell ⟨g5, 8, none⟩ (.int .i64 0))) := ⟨(below_set (below_set (below_set (below_set (below_set (below_set (below_set (below_set (below_set HB.out GEg5.out) GEg5.out) GEg5.out) GEg5.out) GEg5.out) GEg5.out) GEg5.out) GEg5.out) GEg5.out)⟩
  clear BKg5 HB; have BKg5 := n_; have HB := b_; clear n_ b_
  clear hcg2_0 hfg2_0
  clear hcg2_1 hfg2_1
  clear hcg2_2 hfg2_2
  clear hcg2_3 hfg2_3
  clear hcg2_4 hfg2_4
  clear hcg2_5 hfg2_5
  clear hcg2_6 hfg2_6
  clear hcg2_7 hfg2_7
  clear hcg2_8 hfg2_8
  clear hcg3_0 hfg3_0
  clear hcg3_1 hfg3_1
  clear hcg3_2 hfg3_2
  clear hcg3_3 hfg3_3
  clear hcg3_4 hfg3_4
  clear hcg3_5 hfg3_5
  clear hcg3_6 hfg3_6
  clear hcg3_7 hfg3_7
  clear hcg3_8 hfg3_8
  clear hcg5_0 hfg5_0
  clear hcg5_1 hfg5_1
  clear hcg5_2 hfg5_2
  clear hcg5_3 hfg5_3
  clear hcg5_4 hfg5_4
  clear hcg5_5 hfg5_5
  clear hcg5_6 hfg5_6
  clear hcg5_7 hfg5_7
  clear hcg5_8 hfg5_8
  generalize (((((((((W3.setCell ⟨g5, 0, none⟩ (.bool m)).setCell ⟨g5, 1, none⟩ (.int .i64 0)).setCell ⟨g5, 2, none⟩ (.int .i64 0)).setCell ⟨g5, 3, none⟩ (.int .i64 0)).setCell ⟨g5, 4, none⟩ (.int .i64 0)).setCell ⟨g5, 5, none⟩ (.int .i64 0)).setCell ⟨g5, 6, none⟩ (.int .i64 0)).setCell ⟨g5, 7, none⟩ (.int .i64 0)).setCell ⟨g5, 8, none⟩ (.int .i64 0)) = W4 at *
  have hcg2_0 : W4.cell? ⟨g2, 0, none⟩ = some (.bool m) := (blk_cell BKg2.out 0).trans rfl
  have hfg2_0 := blk_frozen BKg2.out 0
  have hcg2_1 : W4.cell? ⟨g2, 1, none⟩ = some (.int .i64 (a 0)) := (blk_cell BKg2.out 1).trans rfl
  have hfg2_1 := blk_frozen BKg2.out 1
  have hcg2_2 : W4.cell? ⟨g2, 2, none⟩ = some (.int .i64 (a 1)) := (blk_cell BKg2.out 2).trans rfl
  have hfg2_2 := blk_frozen BKg2.out 2
  have hcg2_3 : W4.cell? ⟨g2, 3, none⟩ = some (.int .i64 (a 2)) := (blk_cell BKg2.out 3).trans rfl
  have hfg2_3 := blk_frozen BKg2.out 3
  have hcg2_4 : W4.cell? ⟨g2, 4, none⟩ = some (.int .i64 (a 3)) := (blk_cell BKg2.out 4).trans rfl
  have hfg2_4 := blk_frozen BKg2.out 4
  have hcg2_5 : W4.cell? ⟨g2, 5, none⟩ = some (.int .i64 (a 4)) := (blk_cell BKg2.out 5).trans rfl
  have hfg2_5 := blk_frozen BKg2.out 5
  have hcg2_6 : W4.cell? ⟨g2, 6, none⟩ = some (.int .i64 (a 5)) := (blk_cell BKg2.out 6).trans rfl
  have hfg2_6 := blk_frozen BKg2.out 6
  have hcg2_7 : W4.cell? ⟨g2, 7, none⟩ = some (.int .i64 (a 6)) := (blk_cell BKg2.out 7).trans rfl
  have hfg2_7 := blk_frozen BKg2.out 7
  have hcg2_8 : W4.cell? ⟨g2, 8, none⟩ = some (.int .i64 (a 7)) := (blk_cell BKg2.out 8).trans rfl
  have hfg2_8 := blk_frozen BKg2.out 8
  have hcg3_0 : W4.cell? ⟨g3, 0, none⟩ = some (.bool false) := (blk_cell BKg3.out 0).trans rfl
  have hfg3_0 := blk_frozen BKg3.out 0
  have hcg3_1 : W4.cell? ⟨g3, 1, none⟩ = some (.int .i64 0) := (blk_cell BKg3.out 1).trans rfl
  have hfg3_1 := blk_frozen BKg3.out 1
  have hcg3_2 : W4.cell? ⟨g3, 2, none⟩ = some (.int .i64 0) := (blk_cell BKg3.out 2).trans rfl
  have hfg3_2 := blk_frozen BKg3.out 2
  have hcg3_3 : W4.cell? ⟨g3, 3, none⟩ = some (.int .i64 0) := (blk_cell BKg3.out 3).trans rfl
  have hfg3_3 := blk_frozen BKg3.out 3
  have hcg3_4 : W4.cell? ⟨g3, 4, none⟩ = some (.int .i64 0) := (blk_cell BKg3.out 4).trans rfl
  have hfg3_4 := blk_frozen BKg3.out 4
  have hcg3_5 : W4.cell? ⟨g3, 5, none⟩ = some (.int .i64 0) := (blk_cell BKg3.out 5).trans rfl
  have hfg3_5 := blk_frozen BKg3.out 5
  have hcg3_6 : W4.cell? ⟨g3, 6, none⟩ = some (.int .i64 0) := (blk_cell BKg3.out 6).trans rfl
  have hfg3_6 := blk_frozen BKg3.out 6
  have hcg3_7 : W4.cell? ⟨g3, 7, none⟩ = some (.int .i64 0) := (blk_cell BKg3.out 7).trans rfl
  have hfg3_7 := blk_frozen BKg3.out 7
  have hcg3_8 : W4.cell? ⟨g3, 8, none⟩ = some (.int .i64 0) := (blk_cell BKg3.out 8).trans rfl
  have hfg3_8 := blk_frozen BKg3.out 8
  have hcg5_0 : W4.cell? ⟨g5, 0, none⟩ = some (.bool m) := (blk_cell BKg5.out 0).trans rfl
  have hfg5_0 := blk_frozen BKg5.out 0
  have hcg5_1 : W4.cell? ⟨g5, 1, none⟩ = some (.int .i64 0) := (blk_cell BKg5.out 1).trans rfl
  have hfg5_1 := blk_frozen BKg5.out 1
  have hcg5_2 : W4.cell? ⟨g5, 2, none⟩ = some (.int .i64 0) := (blk_cell BKg5.out 2).trans rfl
  have hfg5_2 := blk_frozen BKg5.out 2
  have hcg5_3 : W4.cell? ⟨g5, 3, none⟩ = some (.int .i64 0) := (blk_cell BKg5.out 3).trans rfl
  have hfg5_3 := blk_frozen BKg5.out 3
  have hcg5_4 : W4.cell? ⟨g5, 4, none⟩ = some (.int .i64 0) := (blk_cell BKg5.out 4).trans rfl
  have hfg5_4 := blk_frozen BKg5.out 4
  have hcg5_5 : W4.cell? ⟨g5, 5, none⟩ = some (.int .i64 0) := (blk_cell BKg5.out 5).trans rfl
  have hfg5_5 := blk_frozen BKg5.out 5
  have hcg5_6 : W4.cell? ⟨g5, 6, none⟩ = some (.int .i64 0) := (blk_cell BKg5.out 6).trans rfl
  have hfg5_6 := blk_frozen BKg5.out 6
  have hcg5_7 : W4.cell? ⟨g5, 7, none⟩ = some (.int .i64 0) := (blk_cell BKg5.out 7).trans rfl
  have hfg5_7 := blk_frozen BKg5.out 7
  have hcg5_8 : W4.cell? ⟨g5, 8, none⟩ = some (.int .i64 0) := (blk_cell BKg5.out 8).trans rfl
  have hfg5_8 := blk_frozen BKg5.out 8
  have hm5 : W4.cell? ⟨g5, 0, none⟩ = W4.cell? ⟨g5, 0, none⟩ := rfl; clear hm5
  go_loopw [6] (fun vi wr => ∃ (i : Nat) (D : Nat → Int), vi = .int .i64 i ∧ Aside0 (SR a (shf a (-2)) i D) ∧ Aside0 (wr.heap[g5]? = some (.cells (bigA m D) 60 (0, 0))) ∧ Aside0 (wr.heap[g2]? = some (.cells (bigA m a) 60 (0, 0))) ∧ Aside0 (wr.heap[g3]? = some (.cells #[.bool false, .int .i64 0, .int .i64 0, .int .i64 0, .int .i64 0, .int .i64 0, .int .i64 0, .int .i64 0, .int .i64 0] 60 (0, 0))) ∧ Aside0 (Below w.heap.size w wr)) (fun vi _ => 8 - (intOf vi).toNat)
  case atStart => exact ⟨0, (fun _ => 0), rfl, ⟨SR.start a _⟩, BKg5, BKg2, BKg3, HB⟩
  case round =>
    clear BKg2 BKg3 BKg5 HB hcg2_0 hfg2_0 hcg2_1 hfg2_1 hcg2_2 hfg2_2 hcg2_3 hfg2_3 hcg2_4 hfg2_4 hcg2_5 hfg2_5 hcg2_6 hfg2_6 hcg2_7 hfg2_7 hcg2_8 hfg2_8 hcg3_0 hfg3_0 hcg3_1 hfg3_1 hcg3_2 hfg3_2 hcg3_3 hfg3_3 hcg3_4 hfg3_4 hcg3_5 hfg3_5 hcg3_6 hfg3_6 hcg3_7 hfg3_7 hcg3_8 hfg3_8 hcg5_0 hfg5_0 hcg5_1 hfg5_1 hcg5_2 hfg5_2 hcg5_3 hfg5_3 hcg5_4 hfg5_4 hcg5_5 hfg5_5 hcg5_6 hfg5_6 hcg5_7 hfg5_7 hcg5_8 hfg5_8
    obtain ⟨i, D, rfl, HR, BKg5, BKg2, BKg3, HB⟩ := hrel
    have hi8 := HR.out.i8
    by_cases hlt : i < 8
    · by_cases hs : i < 6
      · obtain ⟨x, hx⟩ : ∃ x, x = a (i + 2) := ⟨_, rfl⟩
        have c5 : wr.cell? ⟨g5, 1 + i, none⟩ = some (.int .i64 (D i)) := (blk_cell BKg5.out (1 + i)).trans (big_get m D (by omega))
        have f5 := blk_frozen BKg5.out (1 + i)
        have c2 : wr.cell? ⟨g2, 1 + (i + 2), none⟩ = some (.int .i64 x) := (blk_cell BKg2.out (1 + (i + 2))).trans ((big_get m a (by omega)).trans (by rw [hx]))
        have HX := Lib.hid (show shf a (-2) i = x from by rw [hx]; exact shf_m2 a hs)
        clear hx
        go_wp2
        exact ⟨⟨i + 1, upd D i x, rfl, ⟨by rw [← HX.out]; exact HR.out.set hlt⟩, ⟨blk_put BKg5.out _ _ (big_set _ D (by omega) _)⟩, ⟨blk_far BKg2.out NBg2_g5 _⟩, ⟨blk_far BKg3.out NBg3_g5 _⟩, ⟨below_set HB.out GEg5.out⟩⟩, by simp [intOf]; omega⟩
      · have HX := Lib.hid (show shf a (-2) i = 0 from shf_m2' a (by omega))
        go_wp2
        exact ⟨⟨i + 1, D, rfl, ⟨HR.out.skip hlt HX.out⟩, BKg5, BKg2, BKg3, HB⟩, by simp [intOf]; omega⟩
    · have e : i = 8 := by omega
      subst e
      have hd := HR.out.done
      have hrep : Rep D (V / 4294967296) := shift_down ha (fun j hj => (hd j (by omega)).trans (shf_m2 a hj)) ((hd 6 (by omega)).trans (shf_m2' a (by omega))) ((hd 7 (by omega)).trans (shf_m2' a (by omega)))
      clear hd
      have hcg5_0 : wr.cell? ⟨g5, 0, none⟩ = some (.bool m) := (blk_cell BKg5.out 0).trans rfl; have hfg5_0 := blk_frozen BKg5.out 0
      have hcg5_1 : wr.cell? ⟨g5, 1, none⟩ = some (.int .i64 (D 0)) := (blk_cell BKg5.out 1).trans rfl; have hfg5_1 := blk_frozen BKg5.out 1
      have hcg5_2 : wr.cell? ⟨g5, 2, none⟩ = some (.int .i64 (D 1)) := (blk_cell BKg5.out 2).trans rfl; have hfg5_2 := blk_frozen BKg5.out 2
      have hcg5_3 : wr.cell? ⟨g5, 3, none⟩ = some (.int .i64 (D 2)) := (blk_cell BKg5.out 3).trans rfl; have hfg5_3 := blk_frozen BKg5.out 3
      have hcg5_4 : wr.cell? ⟨g5, 4, none⟩ = some (.int .i64 (D 3)) := (blk_cell BKg5.out 4).trans rfl; have hfg5_4 := blk_frozen BKg5.out 4
      have hcg5_5 : wr.cell? ⟨g5, 5, none⟩ = some (.int .i64 (D 4)) := (blk_cell BKg5.out 5).trans rfl; have hfg5_5 := blk_frozen BKg5.out 5
      have hcg5_6 : wr.cell? ⟨g5, 6, none⟩ = some (.int .i64 (D 5)) := (blk_cell BKg5.out 6).trans rfl; have hfg5_6 := blk_frozen BKg5.out 6
      have hcg5_7 : wr.cell? ⟨g5, 7, none⟩ = some (.int .i64 (D 6)) := (blk_cell BKg5.out 7).trans rfl; have hfg5_7 := blk_frozen BKg5.out 7
      have hcg5_8 : wr.cell? ⟨g5, 8, none⟩ = some (.int .i64 (D 7)) := (blk_cell BKg5.out 8).trans rfl; have hfg5_8 := blk_frozen BKg5.out 8
      have hcg3_0 : wr.cell? ⟨g3, 0, none⟩ = some (.bool false) := (blk_cell BKg3.out 0).trans rfl; have hfg3_0 := blk_frozen BKg3.out 0
      have hcg3_1 : wr.cell? ⟨g3, 1, none⟩ = some (.int .i64 0) := (blk_cell BKg3.out 1).trans rfl; have hfg3_1 := blk_frozen BKg3.out 1
      have hcg3_2 : wr.cell? ⟨g3, 2, none⟩ = some (.int .i64 0) := (blk_cell BKg3.out 2).trans rfl; have hfg3_2 := blk_frozen BKg3.out 2
      have hcg3_3 : wr.cell? ⟨g3, 3, none⟩ = some (.int .i64 0) := (blk_cell BKg3.out 3).trans rfl; have hfg3_3 := blk_frozen BKg3.out 3
      have hcg3_4 : wr.cell? ⟨g3, 4, none⟩ = some (.int .i64 0) := (blk_cell BKg3.out 4).trans rfl; have hfg3_4 := blk_frozen BKg3.out 4
      have hcg3_5 : wr.cell? ⟨g3, 5, none⟩ = some (.int .i64 0) := (blk_cell BKg3.out 5).trans rfl; have hfg3_5 := blk_frozen BKg3.out 5
      have hcg3_6 : wr.cell? ⟨g3, 6, none⟩ = some (.int .i64 0) := (blk_cell BKg3.out 6).trans rfl; have hfg3_6 := blk_frozen BKg3.out 6
      have hcg3_7 : wr.cell? ⟨g3, 7, none⟩ = some (.int .i64 0) := (blk_cell BKg3.out 7).trans rfl; have hfg3_7 := blk_frozen BKg3.out 7
      have hcg3_8 : wr.cell? ⟨g3, 8, none⟩ = some (.int .i64 0) := (blk_cell BKg3.out 8).trans rfl; have hfg3_8 := blk_frozen BKg3.out 8
      go_wp2
      refine bodyPost_ret (results_cell_row rfl _ _ g3 60 #[.bool m, .int .i64 (D 0), .int .i64 (D 1), .int .i64 (D 2), .int .i64 (D 3), .int .i64 (D 4), .int .i64 (D 5), .int .i64 (D 6), .int .i64 (D 7)] (0, 0) _ rfl (by (with_reducible repeat (first | refine blk_drewN ?_ _ | refine blk_drew ?_ | refine blk_alloc ?_ _)); refine blk_put (cs := #[.bool m, .int .i64 (D 0), .int .i64 (D 1), .int .i64 (D 2), .int .i64 (D 3), .int .i64 (D 4), .int .i64 (D 5), .int .i64 (D 6), .int .i64 0]) ?_ 8 _ rfl; (with_reducible repeat (first | refine blk_drewN ?_ _ | refine blk_drew ?_ | refine blk_alloc ?_ _)); refine blk_put (cs := #[.bool m, .int .i64 (D 0), .int .i64 (D 1), .int .i64 (D 2), .int .i64 (D 3), .int .i64 (D 4), .int .i64 (D 5), .int .i64 0, .int .i64 0]) ?_ 7 _ rfl; (with_reducible repeat (first | refine blk_drewN ?_ _ | refine blk_drew ?_ | refine blk_alloc ?_ _)); refine blk_put (cs := #[.bool m, .int .i64 (D 0), .int .i64 (D 1), .int .i64 (D 2), .int .i64 (D 3), .int .i64 (D 4), .int .i64 0, .int .i64 0, .int .i64 0]) ?_ 6 _ rfl; (with_reducible repeat (first | refine blk_drewN ?_ _ | refine blk_drew ?_ | refine blk_alloc ?_ _)); refine blk_put (cs := #[.bool m, .int .i64 (D 0), .int .i64 (D 1), .int .i64 (D 2), .int .i64 (D 3), .int .i64 0, .int .i64 0, .int .i64 0, .int .i64 0]) ?_ 5 _ rfl; (with_reducible repeat (first | refine blk_drewN ?_ _ | refine blk_drew ?_ | refine blk_alloc ?_ _)); refine blk_put (cs := #[.bool m, .int .i64 (D 0), .int .i64 (D 1), .int .i64 (D 2), .int .i64 0, .int .i64 0, .int .i64 0, .int .i64 0, .int .i64 0]) ?_ 4 _ rfl; (with_reducible repeat (first | refine blk_drewN ?_ _ | refine blk_drew ?_ | refine blk_alloc ?_ _)); refine blk_put (cs := #[.bool m, .int .i64 (D 0), .int .i64 (D 1), .int .i64 0, .int .i64 0, .int .i64 0, .int .i64 0, .int .i64 0, .int .i64 0]) ?_ 3 _ rfl; (with_reducible repeat (first | refine blk_drewN ?_ _ | refine blk_drew ?_ | refine blk_alloc ?_ _)); refine blk_put (cs := #[.bool m, .int .i64 (D 0), .int .i64 0, .int .i64 0, .int .i64 0, .int .i64 0, .int .i64 0, .int .i64 0, .int .i64 0]) ?_ 2 _ rfl; (with_reducible repeat (first | refine blk_drewN ?_ _ | refine blk_drew ?_ | refine blk_alloc ?_ _)); refine blk_put (cs := #[.bool m, .int .i64 0, .int .i64 0, .int .i64 0, .int .i64 0, .int .i64 0, .int .i64 0, .int .i64 0, .int .i64 0]) ?_ 1 _ rfl; (with_reducible repeat (first | refine blk_drewN ?_ _ | refine blk_drew ?_ | refine blk_alloc ?_ _)); refine blk_put (cs := #[.bool false, .int .i64 0, .int .i64 0, .int .i64 0, .int .i64 0, .int .i64 0, .int .i64 0, .int .i64 0, .int .i64 0]) ?_ 0 _ rfl; (with_reducible repeat (first | refine blk_drewN ?_ _ | refine blk_drew ?_ | refine blk_alloc ?_ _)); exact BKg3.out) Tryd.underlying60 rfl (by kernel_rfl)) rfl ?_
      exact ⟨D, rfl, hrep, by repeat (first | (with_reducible first | exact HB.out | apply below_alloc | apply pw_below_drewN | apply below_drew1 | refine below_set ?_ GEg3.out) | exact HB.out)⟩
set_option maxHeartbeats 8000000 in
set_option maxRecDepth 100000 in
theorem shift_p2 (m : Bool) (a : Nat → Int) (V : Int) (w : World) (ha : Rep a V) (hV : V < 79228162514264337593543950336) :
    Calls Tryd.prog 48 #[.agg (bigA m a), .int .i64 2] w
      fun e w' => ∃ D, e = .returned (.agg (bigA m D)) ∧ Rep D (V * 4294967296) ∧ Below w.heap.size w w' := by
  have HB := Aside0.mk (Below.refl w.heap.size w)
  go_enter Tryd.func48, Tryd.ntmps48
  go_wp2_with (first | ((with_reducible refine gate_dst (N := 2) rfl ?_); refine box_event ?hg (N := 2) ?hd (cs := (bigA m a)) (t := 60) ?hr ?_; (case hd => rfl); (case hg => rfl); (case hr => first | (go_simp; done) | (go_simp; rfl)); intro g2 hg_ W1 hbox_ hb_; have GEg2 := Aside0.mk ((by rw [hg_]; exact (below_size HB.out)) : w.heap.size ≤ g2); clear hg_; have n_ := Aside0.mk (below_step HB.out hb_); clear HB; have HB := n_; clear n_; have BKg2 := Aside0.mk hbox_; clear hbox_ hb_; have hcg2_0 : W1.cell? ⟨g2, 0, none⟩ = some (.bool m) := (blk_cell BKg2.out 0).trans rfl; have hfg2_0 := blk_frozen BKg2.out 0; have hcg2_1 : W1.cell? ⟨g2, 1, none⟩ = some (.int .i64 (a 0)) := (blk_cell BKg2.out 1).trans rfl; have hfg2_1 := blk_frozen BKg2.out 1; have hcg2_2 : W1.cell? ⟨g2, 2, none⟩ = some (.int .i64 (a 1)) := (blk_cell BKg2.out 2).trans rfl; have hfg2_2 := blk_frozen BKg2.out 2; have hcg2_3 : W1.cell? ⟨g2, 3, none⟩ = some (.int .i64 (a 2)) := (blk_cell BKg2.out 3).trans rfl; have hfg2_3 := blk_frozen BKg2.out 3; have hcg2_4 : W1.cell? ⟨g2, 4, none⟩ = some (.int .i64 (a 3)) := (blk_cell BKg2.out 4).trans rfl; have hfg2_4 := blk_frozen BKg2.out 4; have hcg2_5 : W1.cell? ⟨g2, 5, none⟩ = some (.int .i64 (a 4)) := (blk_cell BKg2.out 5).trans rfl; have hfg2_5 := blk_frozen BKg2.out 5; have hcg2_6 : W1.cell? ⟨g2, 6, none⟩ = some (.int .i64 (a 5)) := (blk_cell BKg2.out 6).trans rfl; have hfg2_6 := blk_frozen BKg2.out 6; have hcg2_7 : W1.cell? ⟨g2, 7, none⟩ = some (.int .i64 (a 6)) := (blk_cell BKg2.out 7).trans rfl; have hfg2_7 := blk_frozen BKg2.out 7; have hcg2_8 : W1.cell? ⟨g2, 8, none⟩ = some (.int .i64 (a 7)) := (blk_cell BKg2.out 8).trans rfl; have hfg2_8 := blk_frozen BKg2.out 8) | ((with_reducible refine gate_dst (N := 4) rfl ?_); refine box_event ?hg (N := 4) ?hd (cs := #[.bool false, .int .i64 0, .int .i64 0, .int .i64 0, .int .i64 0, .int .i64 0, .int .i64 0, .int .i64 0, .int .i64 0]) (t := 60) ?hr ?_; (case hd => rfl); (case hg => rfl); (case hr => first | (go_simp; done) | (go_simp; rfl)); intro g3 hg_ W2 hbox_ hb_; have GEg3 := Aside0.mk ((by rw [hg_]; exact (below_size HB.out)) : w.heap.size ≤ g3); have NBg2_g3 : g2 ≠ g3 := (by rw [hg_]; exact Nat.ne_of_lt (blk_lt BKg2.out)); have NBg3_g2 : g3 ≠ g2 := Ne.symm NBg2_g3; clear hg_; have n_ := Aside0.mk (blk_below BKg2.out hb_); clear BKg2; have BKg2 := n_; clear n_; clear hcg2_0 hfg2_0; clear hcg2_1 hfg2_1; clear hcg2_2 hfg2_2; clear hcg2_3 hfg2_3; clear hcg2_4 hfg2_4; clear hcg2_5 hfg2_5; clear hcg2_6 hfg2_6; clear hcg2_7 hfg2_7; clear hcg2_8 hfg2_8; have n_ := Aside0.mk (below_step HB.out hb_); clear HB; have HB := n_; clear n_; have BKg3 := Aside0.mk hbox_; clear hbox_ hb_; have hcg2_0 : W2.cell? ⟨g2, 0, none⟩ = some (.bool m) := (blk_cell BKg2.out 0).trans rfl; have hfg2_0 := blk_frozen BKg2.out 0; have hcg2_1 : W2.cell? ⟨g2, 1, none⟩ = some (.int .i64 (a 0)) := (blk_cell BKg2.out 1).trans rfl; have hfg2_1 := blk_frozen BKg2.out 1; have hcg2_2 : W2.cell? ⟨g2, 2, none⟩ = some (.int .i64 (a 1)) := (blk_cell BKg2.out 2).trans rfl; have hfg2_2 := blk_frozen BKg2.out 2; have hcg2_3 : W2.cell? ⟨g2, 3, none⟩ = some (.int .i64 (a 2)) := (blk_cell BKg2.out 3).trans rfl; have hfg2_3 := blk_frozen BKg2.out 3; have hcg2_4 : W2.cell? ⟨g2, 4, none⟩ = some (.int .i64 (a 3)) := (blk_cell BKg2.out 4).trans rfl; have hfg2_4 := blk_frozen BKg2.out 4; have hcg2_5 : W2.cell? ⟨g2, 5, none⟩ = some (.int .i64 (a 4)) := (blk_cell BKg2.out 5).trans rfl; have hfg2_5 := blk_frozen BKg2.out 5; have hcg2_6 : W2.cell? ⟨g2, 6, none⟩ = some (.int .i64 (a 5)) := (blk_cell BKg2.out 6).trans rfl; have hfg2_6 := blk_frozen BKg2.out 6; have hcg2_7 : W2.cell? ⟨g2, 7, none⟩ = some (.int .i64 (a 6)) := (blk_cell BKg2.out 7).trans rfl; have hfg2_7 := blk_frozen BKg2.out 7; have hcg2_8 : W2.cell? ⟨g2, 8, none⟩ = some (.int .i64 (a 7)) := (blk_cell BKg2.out 8).trans rfl; have hfg2_8 := blk_frozen BKg2.out 8; have hcg3_0 : W2.cell? ⟨g3, 0, none⟩ = some (.bool false) := (blk_cell BKg3.out 0).trans rfl; have hfg3_0 := blk_frozen BKg3.out 0; have hcg3_1 : W2.cell? ⟨g3, 1, none⟩ = some (.int .i64 0) := (blk_cell BKg3.out 1).trans rfl; have hfg3_1 := blk_frozen BKg3.out 1; have hcg3_2 : W2.cell? ⟨g3, 2, none⟩ = some (.int .i64 0) := (blk_cell BKg3.out 2).trans rfl; have hfg3_2 := blk_frozen BKg3.out 2; have hcg3_3 : W2.cell? ⟨g3, 3, none⟩ = some (.int .i64 0) := (blk_cell BKg3.out 3).trans rfl; have hfg3_3 := blk_frozen BKg3.out 3; have hcg3_4 : W2.cell? ⟨g3, 4, none⟩ = some (.int .i64 0) := (blk_cell BKg3.out 4).trans rfl; have hfg3_4 := blk_frozen BKg3.out 4; have hcg3_5 : W2.cell? ⟨g3, 5, none⟩ = some (.int .i64 0) := (blk_cell BKg3.out 5).trans rfl; have hfg3_5 := blk_frozen BKg3.out 5; have hcg3_6 : W2.cell? ⟨g3, 6, none⟩ = some (.int .i64 0) := (blk_cell BKg3.out 6).trans rfl; have hfg3_6 := blk_frozen BKg3.out 6; have hcg3_7 : W2.cell? ⟨g3, 7, none⟩ = some (.int .i64 0) := (blk_cell BKg3.out 7).trans rfl; have hfg3_7 := blk_frozen BKg3.out 7; have hcg3_8 : W2.cell? ⟨g3, 8, none⟩ = some (.int .i64 0) := (blk_cell BKg3.out 8).trans rfl; have hfg3_8 := blk_frozen BKg3.out 8) | ((with_reducible refine gate_dst (N := 5) rfl ?_); refine box_event ?hg (N := 5) ?hd (cs := #[.bool false, .int .i64 0, .int .i64 0, .int .i64 0, .int .i64 0, .int .i64 0, .int .i64 0, .int .i64 0, .int .i64 0]) (t := 60) ?hr ?_; (case hd => rfl); (case hg => rfl); (case hr => first | (go_simp; done) | (go_simp; rfl)); intro g5 hg_ W3 hbox_ hb_; have GEg5 := Aside0.mk ((by rw [hg_]; exact (below_size HB.out)) : w.heap.size ≤ g5); have NBg2_g5 : g2 ≠ g5 := (by rw [hg_]; exact Nat.ne_of_lt (blk_lt BKg2.out)); have NBg5_g2 : g5 ≠ g2 := Ne.symm NBg2_g5; have NBg3_g5 : g3 ≠ g5 := (by rw [hg_]; exact Nat.ne_of_lt (blk_lt BKg3.out)); have NBg5_g3 : g5 ≠ g3 := Ne.symm NBg3_g5; clear hg_; have n_ := Aside0.mk (blk_below BKg2.out hb_); clear BKg2; have BKg2 := n_; clear n_; clear hcg2_0 hfg2_0; clear hcg2_1 hfg2_1; clear hcg2_2 hfg2_2; clear hcg2_3 hfg2_3; clear hcg2_4 hfg2_4; clear hcg2_5 hfg2_5; clear hcg2_6 hfg2_6; clear hcg2_7 hfg2_7; clear hcg2_8 hfg2_8; have n_ := Aside0.mk (blk_below BKg3.out hb_); clear BKg3; have BKg3 := n_; clear n_; clear hcg3_0 hfg3_0; clear hcg3_1 hfg3_1; clear hcg3_2 hfg3_2; clear hcg3_3 hfg3_3; clear hcg3_4 hfg3_4; clear hcg3_5 hfg3_5; clear hcg3_6 hfg3_6; clear hcg3_7 hfg3_7; clear hcg3_8 hfg3_8; have n_ := Aside0.mk (below_step HB.out hb_); clear HB; have HB := n_; clear n_; have BKg5 := Aside0.mk hbox_; clear hbox_ hb_; have hcg2_0 : W3.cell? ⟨g2, 0, none⟩ = some (.bool m) := (blk_cell BKg2.out 0).trans rfl; have hfg2_0 := blk_frozen BKg2.out 0; have hcg2_1 : W3.cell? ⟨g2, 1, none⟩ = some (.int .i64 (a 0)) := (blk_cell BKg2.out 1).trans rfl; have hfg2_1 := blk_frozen BKg2.out 1; have hcg2_2 : W3.cell? ⟨g2, 2, none⟩ = some (.int .i64 (a 1)) := (blk_cell BKg2.out 2).trans rfl; have hfg2_2 := blk_frozen BKg2.out 2; have hcg2_3 : W3.cell? ⟨g2, 3, none⟩ = some (.int .i64 (a 2)) := (blk_cell BKg2.out 3).trans rfl; have hfg2_3 := blk_frozen BKg2.out 3; have hcg2_4 : W3.cell? ⟨g2, 4, none⟩ = some (.int .i64 (a 3)) := (blk_cell BKg2.out 4).trans rfl; have hfg2_4 := blk_frozen BKg2.out 4; have hcg2_5 : W3.cell? ⟨g2, 5, none⟩ = some (.int .i64 (a 4)) := (blk_cell BKg2.out 5).trans rfl; have hfg2_5 := blk_frozen BKg2.out 5; have hcg2_6 : W3.cell? ⟨g2, 6, none⟩ = some (.int .i64 (a 5)) := (blk_cell BKg2.out 6).trans rfl; have hfg2_6 := blk_frozen BKg2.out 6; have hcg2_7 : W3.cell? ⟨g2, 7, none⟩ = some (.int .i64 (a 6)) := (blk_cell BKg2.out 7).trans rfl; have hfg2_7 := blk_frozen BKg2.out 7; have hcg2_8 : W3.cell? ⟨g2, 8, none⟩ = some (.int .i64 (a 7)) := (blk_cell BKg2.out 8).trans rfl; have hfg2_8 := blk_frozen BKg2.out 8; have hcg3_0 : W3.cell? ⟨g3, 0, none⟩ = some (.bool false) := (blk_cell BKg3.out 0).trans rfl; have hfg3_0 := blk_frozen BKg3.out 0; have hcg3_1 : W3.cell? ⟨g3, 1, none⟩ = some (.int .i64 0) := (blk_cell BKg3.out 1).trans rfl; have hfg3_1 := blk_frozen BKg3.out 1; have hcg3_2 : W3.cell? ⟨g3, 2, none⟩ = some (.int .i64 0) := (blk_cell BKg3.out 2).trans rfl; have hfg3_2 := blk_frozen BKg3.out 2; have hcg3_3 : W3.cell? ⟨g3, 3, none⟩ = some (.int .i64 0) := (blk_cell BKg3.out 3).trans rfl; have hfg3_3 := blk_frozen BKg3.out 3; have hcg3_4 : W3.cell? ⟨g3, 4, none⟩ = some (.int .i64 0) := (blk_cell BKg3.out 4).trans rfl; have hfg3_4 := blk_frozen BKg3.out 4; have hcg3_5 : W3.cell? ⟨g3, 5, none⟩ = some (.int .i64 0) := (blk_cell BKg3.out 5).trans rfl; have hfg3_5 := blk_frozen BKg3.out 5; have hcg3_6 : W3.cell? ⟨g3, 6, none⟩ = some (.int .i64 0) := (blk_cell BKg3.out 6).trans rfl; have hfg3_6 := blk_frozen BKg3.out 6; have hcg3_7 : W3.cell? ⟨g3, 7, none⟩ = some (.int .i64 0) := (blk_cell BKg3.out 7).trans rfl; have hfg3_7 := blk_frozen BKg3.out 7; have hcg3_8 : W3.cell? ⟨g3, 8, none⟩ = some (.int .i64 0) := (blk_cell BKg3.out 8).trans rfl; have hfg3_8 := blk_frozen BKg3.out 8; have hcg5_0 : W3.cell? ⟨g5, 0, none⟩ = some (.bool false) := (blk_cell BKg5.out 0).trans rfl; have hfg5_0 := blk_frozen BKg5.out 0; have hcg5_1 : W3.cell? ⟨g5, 1, none⟩ = some (.int .i64 0) := (blk_cell BKg5.out 1).trans rfl; have hfg5_1 := blk_frozen BKg5.out 1; have hcg5_2 : W3.cell? ⟨g5, 2, none⟩ = some (.int .i64 0) := (blk_cell BKg5.out 2).trans rfl; have hfg5_2 := blk_frozen BKg5.out 2; have hcg5_3 : W3.cell? ⟨g5, 3, none⟩ = some (.int .i64 0) := (blk_cell BKg5.out 3).trans rfl; have hfg5_3 := blk_frozen BKg5.out 3; have hcg5_4 : W3.cell? ⟨g5, 4, none⟩ = some (.int .i64 0) := (blk_cell BKg5.out 4).trans rfl; have hfg5_4 := blk_frozen BKg5.out 4; have hcg5_5 : W3.cell? ⟨g5, 5, none⟩ = some (.int .i64 0) := (blk_cell BKg5.out 5).trans rfl; have hfg5_5 := blk_frozen BKg5.out 5; have hcg5_6 : W3.cell? ⟨g5, 6, none⟩ = some (.int .i64 0) := (blk_cell BKg5.out 6).trans rfl; have hfg5_6 := blk_frozen BKg5.out 6; have hcg5_7 : W3.cell? ⟨g5, 7, none⟩ = some (.int .i64 0) := (blk_cell BKg5.out 7).trans rfl; have hfg5_7 := blk_frozen BKg5.out 7; have hcg5_8 : W3.cell? ⟨g5, 8, none⟩ = some (.int .i64 0) := (blk_cell BKg5.out 8).trans rfl; have hfg5_8 := blk_frozen BKg5.out 8))
  have n_ : Aside0 ((((((((((W3.setCell ⟨g5, 0, none⟩ (.bool m)).setCell ⟨g5, 1, none⟩ (.int .i64 0)).setCell ⟨g5, 2, none⟩ (.int .i64 0)).setCell ⟨g5, 3, none⟩ (.int .i64 0)).setCell ⟨g5, 4, none⟩ (.int .i64 0)).setCell ⟨g5, 5, none⟩ (.int .i64 0)).setCell ⟨g5, 6, none⟩ (.int .i64 0)).setCell ⟨g5, 7, none⟩ (.int .i64 0)).setCell ⟨g5, 8, none⟩ (.int .i64 0)).heap[g5]? = some (.cells #[.bool m, .int .i64 0, .int .i64 0, .int .i64 0, .int .i64 0, .int .i64 0, .int .i64 0, .int .i64 0, .int .i64 0] 60 (0, 0))) := ⟨by refine blk_put (cs := #[.bool m, .int .i64 0, .int .i64 0, .int .i64 0, .int .i64 0, .int .i64 0, .int .i64 0, .int .i64 0, .int .i64 0]) ?_ 8 _ rfl; refine blk_put (cs := #[.bool m, .int .i64 0, .int .i64 0, .int .i64 0, .int .i64 0, .int .i64 0, .int .i64 0, .int .i64 0, .int .i64 0]) ?_ 7 _ rfl; refine blk_put (cs := #[.bool m, .int .i64 0, .int .i64 0, .int .i64 0, .int .i64 0, .int .i64 0, .int .i64 0, .int .i64 0, .int .i64 0]) ?_ 6 _ rfl; refine blk_put (cs := #[.bool m, .int .i64 0, .int .i64 0, .int .i64 0, .int .i64 0, .int .i64 0, .int .i64 0, .int .i64 0, .int .i64 0]) ?_ 5 _ rfl; refine blk_put (cs := #[.bool m, .int .i64 0, .int .i64 0, .int .i64 0, .int .i64 0, .int .i64 0, .int .i64 0, .int .i64 0, .int .i64 0]) ?_ 4 _ rfl; refine blk_put (cs := #[.bool m, .int .i64 0, .int .i64 0, .int .i64 0, .int .i64 0, .int .i64 0, .int .i64 0, .int .i64 0, .int .i64 0]) ?_ 3 _ rfl; refine blk_put (cs := #[.bool m, .int .i64 0, .int .i64 0, .int .i64 0, .int .i64 0, .int .i64 0, .int .i64 0, .int .i64 0, .int .i64 0]) ?_ 2 _ rfl; refine blk_put (cs := #[.bool m, .int .i64 0, .int .i64 0, .int .i64 0, .int .i64 0, .int .i64 0, .int .i64 0, .int .i64 0, .int .i64 0]) ?_ 1 _ rfl; refine blk_put (cs := #[.bool false, .int .i64 0, .int .i64 0, .int .i64 0, .int .i64 0, .int .i64 0, .int .i64 0, .int .i64 0, .int .i64 0]) ?_ 0 _ rfl; exact BKg5.out⟩
  have m_ : Aside0 ((((((((((W3.setCell ⟨g5, 0, none⟩ (.bool m)).setCell ⟨g5, 1, none⟩ (.int .i64 0)).setCell ⟨g5, 2, none⟩ (.int .i64 0)).setCell ⟨g5, 3, none⟩ (.int .i64 0)).setCell ⟨g5, 4, none⟩ (.int .i64 0)).setCell ⟨g5, 5, none⟩ (.int .i64 0)).setCell ⟨g5, 6, none⟩ (.int .i64 0)).setCell ⟨g5, 7, none⟩ (.int .i64 0)).setCell ⟨g5, 8, none⟩ (.int .i64 0)).heap[g2]? = some (.cells (bigA m a) 60 (0, 0))) := ⟨(blk_far (blk_far (blk_far (blk_far (blk_far (blk_far (blk_far (blk_far (blk_far BKg2.out NBg2_g5 _) NBg2_g5 _) NBg2_g5 _) NBg2_g5 _) NBg2_g5 _) NBg2_g5 _) NBg2_g5 _) NBg2_g5 _) NBg2_g5 _)⟩
  clear BKg2; have BKg2 := m_; clear m_
  have m_ : Aside0 ((((((((((W3.setCell ⟨g5, 0, none⟩ (.bool m)).setCell ⟨g5, 1, none⟩ (.int .i64 0)).setCell ⟨g5, 2, none⟩ (.int .i64 0)).setCell ⟨g5, 3, none⟩ (.int .i64 0)).setCell ⟨g5, 4, none⟩ (.int .i64 0)).setCell ⟨g5, 5, none⟩ (.int .i64 0)).setCell ⟨g5, 6, none⟩ (.int .i64 0)).setCell ⟨g5, 7, none⟩ (.int .i64 0)).setCell ⟨g5, 8, none⟩ (.int .i64 0)).heap[g3]? = some (.cells #[.bool false, .int .i64 0, .int .i64 0, .int .i64 0, .int .i64 0, .int .i64 0, .int .i64 0, .int .i64 0, .int .i64 0] 60 (0, 0))) := ⟨(blk_far (blk_far (blk_far (blk_far (blk_far (blk_far (blk_far (blk_far (blk_far BKg3.out NBg3_g5 _) NBg3_g5 _) NBg3_g5 _) NBg3_g5 _) NBg3_g5 _) NBg3_g5 _) NBg3_g5 _) NBg3_g5 _) NBg3_g5 _)⟩
  clear BKg3; have BKg3 := m_; clear m_
  have b_ : Aside0 (Below w.heap.size w (((((((((W3.setCell ⟨g5, 0, none⟩ (.bool m)).setCell ⟨g5, 1, none⟩ (.int .i64 0)).setCell ⟨g5, 2, none⟩ (.int .i64 0)).setCell ⟨g5, 3, none⟩ (.int .i64 0)).setCell ⟨g5, 4, none⟩ (.int .i64 0)).setCell ⟨g5, 5, none⟩ (.int .i64 0)).setCell ⟨g5, 6, none⟩ (.int .i64 0)).setCell ⟨g5, 7, none⟩ (.int .i64 0)).setCell ⟨g5, 8, none⟩ (.int .i64 0))) := ⟨(below_set (below_set (below_set (below_set (below_set (below_set (below_set (below_set (below_set HB.out GEg5.out) GEg5.out) GEg5.out) GEg5.out) GEg5.out) GEg5.out) GEg5.out) GEg5.out) GEg5.out)⟩
  clear BKg5 HB; have BKg5 := n_; have HB := b_; clear n_ b_
  clear hcg2_0 hfg2_0
  clear hcg2_1 hfg2_1
  clear hcg2_2 hfg2_2
  clear hcg2_3 hfg2_3
  clear hcg2_4 hfg2_4
  clear hcg2_5 hfg2_5
  clear hcg2_6 hfg2_6
  clear hcg2_7 hfg2_7
  clear hcg2_8 hfg2_8
  clear hcg3_0 hfg3_0
  clear hcg3_1 hfg3_1
  clear hcg3_2 hfg3_2
  clear hcg3_3 hfg3_3
  clear hcg3_4 hfg3_4
  clear hcg3_5 hfg3_5
  clear hcg3_6 hfg3_6
  clear hcg3_7 hfg3_7
  clear hcg3_8 hfg3_8
  clear hcg5_0 hfg5_0
  clear hcg5_1 hfg5_1
  clear hcg5_2 hfg5_2
  clear hcg5_3 hfg5_3
  clear hcg5_4 hfg5_4
  clear hcg5_5 hfg5_5
  clear hcg5_6 hfg5_6
  clear hcg5_7 hfg5_7
  clear hcg5_8 hfg5_8
  generalize (((((((((W3.setCell ⟨g5, 0, none⟩ (.bool m)).setCell ⟨g5, 1, none⟩ (.int .i64 0)).setCell ⟨g5, 2, none⟩ (.int .i64 0)).setCell ⟨g5, 3, none⟩ (.int .i64 0)).setCell ⟨g5, 4, none⟩ (.int .i64 0)).setCell ⟨g5, 5, none⟩ (.int .i64 0)).setCell ⟨g5, 6, none⟩ (.int .i64 0)).setCell ⟨g5, 7, none⟩ (.int .i64 0)).setCell ⟨g5, 8, none⟩ (.int .i64 0)) = W4 at *
  have hcg2_0 : W4.cell? ⟨g2, 0, none⟩ = some (.bool m) := (blk_cell BKg2.out 0).trans rfl
  have hfg2_0 := blk_frozen BKg2.out 0
  have hcg2_1 : W4.cell? ⟨g2, 1, none⟩ = some (.int .i64 (a 0)) := (blk_cell BKg2.out 1).trans rfl
  have hfg2_1 := blk_frozen BKg2.out 1
  have hcg2_2 : W4.cell? ⟨g2, 2, none⟩ = some (.int .i64 (a 1)) := (blk_cell BKg2.out 2).trans rfl
  have hfg2_2 := blk_frozen BKg2.out 2
  have hcg2_3 : W4.cell? ⟨g2, 3, none⟩ = some (.int .i64 (a 2)) := (blk_cell BKg2.out 3).trans rfl
  have hfg2_3 := blk_frozen BKg2.out 3
  have hcg2_4 : W4.cell? ⟨g2, 4, none⟩ = some (.int .i64 (a 3)) := (blk_cell BKg2.out 4).trans rfl
  have hfg2_4 := blk_frozen BKg2.out 4
  have hcg2_5 : W4.cell? ⟨g2, 5, none⟩ = some (.int .i64 (a 4)) := (blk_cell BKg2.out 5).trans rfl
  have hfg2_5 := blk_frozen BKg2.out 5
  have hcg2_6 : W4.cell? ⟨g2, 6, none⟩ = some (.int .i64 (a 5)) := (blk_cell BKg2.out 6).trans rfl
  have hfg2_6 := blk_frozen BKg2.out 6
  have hcg2_7 : W4.cell? ⟨g2, 7, none⟩ = some (.int .i64 (a 6)) := (blk_cell BKg2.out 7).trans rfl
  have hfg2_7 := blk_frozen BKg2.out 7
  have hcg2_8 : W4.cell? ⟨g2, 8, none⟩ = some (.int .i64 (a 7)) := (blk_cell BKg2.out 8).trans rfl
  have hfg2_8 := blk_frozen BKg2.out 8
  have hcg3_0 : W4.cell? ⟨g3, 0, none⟩ = some (.bool false) := (blk_cell BKg3.out 0).trans rfl
  have hfg3_0 := blk_frozen BKg3.out 0
  have hcg3_1 : W4.cell? ⟨g3, 1, none⟩ = some (.int .i64 0) := (blk_cell BKg3.out 1).trans rfl
  have hfg3_1 := blk_frozen BKg3.out 1
  have hcg3_2 : W4.cell? ⟨g3, 2, none⟩ = some (.int .i64 0) := (blk_cell BKg3.out 2).trans rfl
  have hfg3_2 := blk_frozen BKg3.out 2
  have hcg3_3 : W4.cell? ⟨g3, 3, none⟩ = some (.int .i64 0) := (blk_cell BKg3.out 3).trans rfl
  have hfg3_3 := blk_frozen BKg3.out 3
  have hcg3_4 : W4.cell? ⟨g3, 4, none⟩ = some (.int .i64 0) := (blk_cell BKg3.out 4).trans rfl
  have hfg3_4 := blk_frozen BKg3.out 4
  have hcg3_5 : W4.cell? ⟨g3, 5, none⟩ = some (.int .i64 0) := (blk_cell BKg3.out 5).trans rfl
  have hfg3_5 := blk_frozen BKg3.out 5
  have hcg3_6 : W4.cell? ⟨g3, 6, none⟩ = some (.int .i64 0) := (blk_cell BKg3.out 6).trans rfl
  have hfg3_6 := blk_frozen BKg3.out 6
  have hcg3_7 : W4.cell? ⟨g3, 7, none⟩ = some (.int .i64 0) := (blk_cell BKg3.out 7).trans rfl
  have hfg3_7 := blk_frozen BKg3.out 7
  have hcg3_8 : W4.cell? ⟨g3, 8, none⟩ = some (.int .i64 0) := (blk_cell BKg3.out 8).trans rfl
  have hfg3_8 := blk_frozen BKg3.out 8
  have hcg5_0 : W4.cell? ⟨g5, 0, none⟩ = some (.bool m) := (blk_cell BKg5.out 0).trans rfl
  have hfg5_0 := blk_frozen BKg5.out 0
  have hcg5_1 : W4.cell? ⟨g5, 1, none⟩ = some (.int .i64 0) := (blk_cell BKg5.out 1).trans rfl
  have hfg5_1 := blk_frozen BKg5.out 1
  have hcg5_2 : W4.cell? ⟨g5, 2, none⟩ = some (.int .i64 0) := (blk_cell BKg5.out 2).trans rfl
  have hfg5_2 := blk_frozen BKg5.out 2
  have hcg5_3 : W4.cell? ⟨g5, 3, none⟩ = some (.int .i64 0) := (blk_cell BKg5.out 3).trans rfl
  have hfg5_3 := blk_frozen BKg5.out 3
  have hcg5_4 : W4.cell? ⟨g5, 4, none⟩ = some (.int .i64 0) := (blk_cell BKg5.out 4).trans rfl
  have hfg5_4 := blk_frozen BKg5.out 4
  have hcg5_5 : W4.cell? ⟨g5, 5, none⟩ = some (.int .i64 0) := (blk_cell BKg5.out 5).trans rfl
  have hfg5_5 := blk_frozen BKg5.out 5
  have hcg5_6 : W4.cell? ⟨g5, 6, none⟩ = some (.int .i64 0) := (blk_cell BKg5.out 6).trans rfl
  have hfg5_6 := blk_frozen BKg5.out 6
  have hcg5_7 : W4.cell? ⟨g5, 7, none⟩ = some (.int .i64 0) := (blk_cell BKg5.out 7).trans rfl
  have hfg5_7 := blk_frozen BKg5.out 7
  have hcg5_8 : W4.cell? ⟨g5, 8, none⟩ = some (.int .i64 0) := (blk_cell BKg5.out 8).trans rfl
  have hfg5_8 := blk_frozen BKg5.out 8
  have hm5 : W4.cell? ⟨g5, 0, none⟩ = W4.cell? ⟨g5, 0, none⟩ := rfl; clear hm5
  go_loopw [6] (fun vi wr => ∃ (i : Nat) (D : Nat → Int), vi = .int .i64 i ∧ Aside0 (SR a (shf a (2)) i D) ∧ Aside0 (wr.heap[g5]? = some (.cells (bigA m D) 60 (0, 0))) ∧ Aside0 (wr.heap[g2]? = some (.cells (bigA m a) 60 (0, 0))) ∧ Aside0 (wr.heap[g3]? = some (.cells #[.bool false, .int .i64 0, .int .i64 0, .int .i64 0, .int .i64 0, .int .i64 0, .int .i64 0, .int .i64 0, .int .i64 0] 60 (0, 0))) ∧ Aside0 (Below w.heap.size w wr)) (fun vi _ => 8 - (intOf vi).toNat)
  case atStart => exact ⟨0, (fun _ => 0), rfl, ⟨SR.start a _⟩, BKg5, BKg2, BKg3, HB⟩
  case round =>
    clear BKg2 BKg3 BKg5 HB hcg2_0 hfg2_0 hcg2_1 hfg2_1 hcg2_2 hfg2_2 hcg2_3 hfg2_3 hcg2_4 hfg2_4 hcg2_5 hfg2_5 hcg2_6 hfg2_6 hcg2_7 hfg2_7 hcg2_8 hfg2_8 hcg3_0 hfg3_0 hcg3_1 hfg3_1 hcg3_2 hfg3_2 hcg3_3 hfg3_3 hcg3_4 hfg3_4 hcg3_5 hfg3_5 hcg3_6 hfg3_6 hcg3_7 hfg3_7 hcg3_8 hfg3_8 hcg5_0 hfg5_0 hcg5_1 hfg5_1 hcg5_2 hfg5_2 hcg5_3 hfg5_3 hcg5_4 hfg5_4 hcg5_5 hfg5_5 hcg5_6 hfg5_6 hcg5_7 hfg5_7 hcg5_8 hfg5_8
    obtain ⟨i, D, rfl, HR, BKg5, BKg2, BKg3, HB⟩ := hrel
    have hi8 := HR.out.i8
    by_cases hlt : i < 8
    · by_cases hs : 2 ≤ i
      · obtain ⟨x, hx⟩ : ∃ x, x = a (i - 2) := ⟨_, rfl⟩
        have c5 : wr.cell? ⟨g5, 1 + i, none⟩ = some (.int .i64 (D i)) := (blk_cell BKg5.out (1 + i)).trans (big_get m D (by omega))
        have f5 := blk_frozen BKg5.out (1 + i)
        have c2 : wr.cell? ⟨g2, 1 + (i - 2), none⟩ = some (.int .i64 x) := (blk_cell BKg2.out (1 + (i - 2))).trans ((big_get m a (by omega)).trans (by rw [hx]))
        have HX := Lib.hid (show shf a (2) i = x from by rw [hx]; exact shf_p2 a hs hlt)
        clear hx
        go_wp2
        exact ⟨⟨i + 1, upd D i x, rfl, ⟨by rw [← HX.out]; exact HR.out.set hlt⟩, ⟨blk_put BKg5.out _ _ (big_set _ D (by omega) _)⟩, ⟨blk_far BKg2.out NBg2_g5 _⟩, ⟨blk_far BKg3.out NBg3_g5 _⟩, ⟨below_set HB.out GEg5.out⟩⟩, by simp [intOf]; omega⟩
      · have HX := Lib.hid (show shf a (2) i = 0 from shf_p2' a (by omega))
        go_wp2
        exact ⟨⟨i + 1, D, rfl, ⟨HR.out.skip hlt HX.out⟩, BKg5, BKg2, BKg3, HB⟩, by simp [intOf]; omega⟩
    · have e : i = 8 := by omega
      subst e
      have hd := HR.out.done
      have hrep : Rep D (V * 4294967296) := shift_up ha hV ((hd 0 (by omega)).trans (shf_p2' a (by omega))) ((hd 1 (by omega)).trans (shf_p2' a (by omega))) (fun j hj => (hd (j + 2) (by omega)).trans ((shf_p2 a (by omega) (by omega)).trans (by congr 1)))
      clear hd
      have hcg5_0 : wr.cell? ⟨g5, 0, none⟩ = some (.bool m) := (blk_cell BKg5.out 0).trans rfl; have hfg5_0 := blk_frozen BKg5.out 0
      have hcg5_1 : wr.cell? ⟨g5, 1, none⟩ = some (.int .i64 (D 0)) := (blk_cell BKg5.out 1).trans rfl; have hfg5_1 := blk_frozen BKg5.out 1
      have hcg5_2 : wr.cell? ⟨g5, 2, none⟩ = some (.int .i64 (D 1)) := (blk_cell BKg5.out 2).trans rfl; have hfg5_2 := blk_frozen BKg5.out 2
      have hcg5_3 : wr.cell? ⟨g5, 3, none⟩ = some (.int .i64 (D 2)) := (blk_cell BKg5.out 3).trans rfl; have hfg5_3 := blk_frozen BKg5.out 3
      have hcg5_4 : wr.cell? ⟨g5, 4, none⟩ = some (.int .i64 (D 3)) := (blk_cell BKg5.out 4).trans rfl; have hfg5_4 := blk_frozen BKg5.out 4
      have hcg5_5 : wr.cell? ⟨g5, 5, none⟩ = some (.int .i64 (D 4)) := (blk_cell BKg5.out 5).trans rfl; have hfg5_5 := blk_frozen BKg5.out 5
      have hcg5_6 : wr.cell? ⟨g5, 6, none⟩ = some (.int .i64 (D 5)) := (blk_cell BKg5.out 6).trans rfl; have hfg5_6 := blk_frozen BKg5.out 6
      have hcg5_7 : wr.cell? ⟨g5, 7, none⟩ = some (.int .i64 (D 6)) := (blk_cell BKg5.out 7).trans rfl; have hfg5_7 := blk_frozen BKg5.out 7
      have hcg5_8 : wr.cell? ⟨g5, 8, none⟩ = some (.int .i64 (D 7)) := (blk_cell BKg5.out 8).trans rfl; have hfg5_8 := blk_frozen BKg5.out 8
      have hcg3_0 : wr.cell? ⟨g3, 0, none⟩ = some (.bool false) := (blk_cell BKg3.out 0).trans rfl; have hfg3_0 := blk_frozen BKg3.out 0
      have hcg3_1 : wr.cell? ⟨g3, 1, none⟩ = some (.int .i64 0) := (blk_cell BKg3.out 1).trans rfl; have hfg3_1 := blk_frozen BKg3.out 1
      have hcg3_2 : wr.cell? ⟨g3, 2, none⟩ = some (.int .i64 0) := (blk_cell BKg3.out 2).trans rfl; have hfg3_2 := blk_frozen BKg3.out 2
      have hcg3_3 : wr.cell? ⟨g3, 3, none⟩ = some (.int .i64 0) := (blk_cell BKg3.out 3).trans rfl; have hfg3_3 := blk_frozen BKg3.out 3
      have hcg3_4 : wr.cell? ⟨g3, 4, none⟩ = some (.int .i64 0) := (blk_cell BKg3.out 4).trans rfl; have hfg3_4 := blk_frozen BKg3.out 4
      have hcg3_5 : wr.cell? ⟨g3, 5, none⟩ = some (.int .i64 0) := (blk_cell BKg3.out 5).trans rfl; have hfg3_5 := blk_frozen BKg3.out 5
      have hcg3_6 : wr.cell? ⟨g3, 6, none⟩ = some (.int .i64 0) := (blk_cell BKg3.out 6).trans rfl; have hfg3_6 := blk_frozen BKg3.out 6
      have hcg3_7 : wr.cell? ⟨g3, 7, none⟩ = some (.int .i64 0) := (blk_cell BKg3.out 7).trans rfl; have hfg3_7 := blk_frozen BKg3.out 7
      have hcg3_8 : wr.cell? ⟨g3, 8, none⟩ = some (.int .i64 0) := (blk_cell BKg3.out 8).trans rfl; have hfg3_8 := blk_frozen BKg3.out 8
      go_wp2
      refine bodyPost_ret (results_cell_row rfl _ _ g3 60 #[.bool m, .int .i64 (D 0), .int .i64 (D 1), .int .i64 (D 2), .int .i64 (D 3), .int .i64 (D 4), .int .i64 (D 5), .int .i64 (D 6), .int .i64 (D 7)] (0, 0) _ rfl (by (with_reducible repeat (first | refine blk_drewN ?_ _ | refine blk_drew ?_ | refine blk_alloc ?_ _)); refine blk_put (cs := #[.bool m, .int .i64 (D 0), .int .i64 (D 1), .int .i64 (D 2), .int .i64 (D 3), .int .i64 (D 4), .int .i64 (D 5), .int .i64 (D 6), .int .i64 0]) ?_ 8 _ rfl; (with_reducible repeat (first | refine blk_drewN ?_ _ | refine blk_drew ?_ | refine blk_alloc ?_ _)); refine blk_put (cs := #[.bool m, .int .i64 (D 0), .int .i64 (D 1), .int .i64 (D 2), .int .i64 (D 3), .int .i64 (D 4), .int .i64 (D 5), .int .i64 0, .int .i64 0]) ?_ 7 _ rfl; (with_reducible repeat (first | refine blk_drewN ?_ _ | refine blk_drew ?_ | refine blk_alloc ?_ _)); refine blk_put (cs := #[.bool m, .int .i64 (D 0), .int .i64 (D 1), .int .i64 (D 2), .int .i64 (D 3), .int .i64 (D 4), .int .i64 0, .int .i64 0, .int .i64 0]) ?_ 6 _ rfl; (with_reducible repeat (first | refine blk_drewN ?_ _ | refine blk_drew ?_ | refine blk_alloc ?_ _)); refine blk_put (cs := #[.bool m, .int .i64 (D 0), .int .i64 (D 1), .int .i64 (D 2), .int .i64 (D 3), .int .i64 0, .int .i64 0, .int .i64 0, .int .i64 0]) ?_ 5 _ rfl; (with_reducible repeat (first | refine blk_drewN ?_ _ | refine blk_drew ?_ | refine blk_alloc ?_ _)); refine blk_put (cs := #[.bool m, .int .i64 (D 0), .int .i64 (D 1), .int .i64 (D 2), .int .i64 0, .int .i64 0, .int .i64 0, .int .i64 0, .int .i64 0]) ?_ 4 _ rfl; (with_reducible repeat (first | refine blk_drewN ?_ _ | refine blk_drew ?_ | refine blk_alloc ?_ _)); refine blk_put (cs := #[.bool m, .int .i64 (D 0), .int .i64 (D 1), .int .i64 0, .int .i64 0, .int .i64 0, .int .i64 0, .int .i64 0, .int .i64 0]) ?_ 3 _ rfl; (with_reducible repeat (first | refine blk_drewN ?_ _ | refine blk_drew ?_ | refine blk_alloc ?_ _)); refine blk_put (cs := #[.bool m, .int .i64 (D 0), .int .i64 0, .int .i64 0, .int .i64 0, .int .i64 0, .int .i64 0, .int .i64 0, .int .i64 0]) ?_ 2 _ rfl; (with_reducible repeat (first | refine blk_drewN ?_ _ | refine blk_drew ?_ | refine blk_alloc ?_ _)); refine blk_put (cs := #[.bool m, .int .i64 0, .int .i64 0, .int .i64 0, .int .i64 0, .int .i64 0, .int .i64 0, .int .i64 0, .int .i64 0]) ?_ 1 _ rfl; (with_reducible repeat (first | refine blk_drewN ?_ _ | refine blk_drew ?_ | refine blk_alloc ?_ _)); refine blk_put (cs := #[.bool false, .int .i64 0, .int .i64 0, .int .i64 0, .int .i64 0, .int .i64 0, .int .i64 0, .int .i64 0, .int .i64 0]) ?_ 0 _ rfl; (with_reducible repeat (first | refine blk_drewN ?_ _ | refine blk_drew ?_ | refine blk_alloc ?_ _)); exact BKg3.out) Tryd.underlying60 rfl (by kernel_rfl)) rfl ?_
      exact ⟨D, rfl, hrep, by repeat (first | (with_reducible first | exact HB.out | apply below_alloc | apply pw_below_drewN | apply below_drew1 | refine below_set ?_ GEg3.out) | exact HB.out)⟩
set_option maxHeartbeats 8000000 in
set_option maxRecDepth 100000 in
theorem stop_calls (m : Bool) (a : Nat → Int) (V : Int) (w : World) (ha : Rep a V) :
    Calls Tryd.prog 46 #[.agg (bigA m a)] w
      fun e w' => e = .returned (.int .i64 (sat (if m then -V else V))) ∧ Below w.heap.size w w' := by
  have HB := Aside0.mk (Below.refl w.heap.size w)
  have gi := great_iff ha
  obtain ⟨l3, u3⟩ := ha.dig 3 (by omega)
  obtain ⟨l4, u4⟩ := ha.dig 4 (by omega)
  obtain ⟨l5, u5⟩ := ha.dig 5 (by omega)
  obtain ⟨l6, u6⟩ := ha.dig 6 (by omega)
  obtain ⟨l7, u7⟩ := ha.dig 7 (by omega)
  have hcase : (0 < a 4 + a 5 + a 6 + a 7) ∨ (a 4 + a 5 + a 6 + a 7 ≤ 0 ∧ 32768 ≤ a 3) ∨ (a 4 + a 5 + a 6 + a 7 ≤ 0 ∧ a 3 < 32768) := by omega
  have GI := Lib.hid gi; clear gi
  rcases hcase with q | ⟨q, r⟩ | ⟨q, r⟩
  ·
    go_enter Tryd.func46, Tryd.ntmps46
    go_wp2_with (first | ((with_reducible refine gate_dst (N := 1) rfl ?_); refine box_event ?hg (N := 1) ?hd (cs := (bigA m a)) (t := 60) ?hr ?_; (case hd => rfl); (case hg => rfl); (case hr => first | (go_simp; done) | (go_simp; rfl)); intro g1 hg_ W1 hbox_ hb_; have GEg1 := Aside0.mk ((by rw [hg_]; exact (below_size HB.out)) : w.heap.size ≤ g1); clear hg_; have n_ := Aside0.mk (below_step HB.out hb_); clear HB; have HB := n_; clear n_; have BKg1 := Aside0.mk hbox_; clear hbox_ hb_; have hcg1_0 : W1.cell? ⟨g1, 0, none⟩ = some (.bool m) := (blk_cell BKg1.out 0).trans rfl; have hfg1_0 := blk_frozen BKg1.out 0; have hcg1_1 : W1.cell? ⟨g1, 1, none⟩ = some (.int .i64 (a 0)) := (blk_cell BKg1.out 1).trans rfl; have hfg1_1 := blk_frozen BKg1.out 1; have hcg1_2 : W1.cell? ⟨g1, 2, none⟩ = some (.int .i64 (a 1)) := (blk_cell BKg1.out 2).trans rfl; have hfg1_2 := blk_frozen BKg1.out 2; have hcg1_3 : W1.cell? ⟨g1, 3, none⟩ = some (.int .i64 (a 2)) := (blk_cell BKg1.out 3).trans rfl; have hfg1_3 := blk_frozen BKg1.out 3; have hcg1_4 : W1.cell? ⟨g1, 4, none⟩ = some (.int .i64 (a 3)) := (blk_cell BKg1.out 4).trans rfl; have hfg1_4 := blk_frozen BKg1.out 4; have hcg1_5 : W1.cell? ⟨g1, 5, none⟩ = some (.int .i64 (a 4)) := (blk_cell BKg1.out 5).trans rfl; have hfg1_5 := blk_frozen BKg1.out 5; have hcg1_6 : W1.cell? ⟨g1, 6, none⟩ = some (.int .i64 (a 5)) := (blk_cell BKg1.out 6).trans rfl; have hfg1_6 := blk_frozen BKg1.out 6; have hcg1_7 : W1.cell? ⟨g1, 7, none⟩ = some (.int .i64 (a 6)) := (blk_cell BKg1.out 7).trans rfl; have hfg1_7 := blk_frozen BKg1.out 7; have hcg1_8 : W1.cell? ⟨g1, 8, none⟩ = some (.int .i64 (a 7)) := (blk_cell BKg1.out 8).trans rfl; have hfg1_8 := blk_frozen BKg1.out 8))
    go_loopw [3, 5] (fun vu vi wr => ∃ (j : Nat), vu = .int .u64 (ustep a (4 - j)) ∧ vi = .int .i64 ((j : Int) - 1) ∧ Aside0 (j ≤ 4) ∧ Aside0 (wr.heap[g1]? = some (.cells (bigA m a) 60 (0, 0))) ∧ Aside0 (Below w.heap.size w wr)) (fun _ vi _ => (intOf vi + 1).toNat)
    case atStart => exact ⟨4, rfl, rfl, ⟨by omega⟩, BKg1, HB⟩
    case round =>
      clear BKg1 HB hcg1_0 hfg1_0 hcg1_1 hfg1_1 hcg1_2 hfg1_2 hcg1_3 hfg1_3 hcg1_4 hfg1_4 hcg1_5 hfg1_5 hcg1_6 hfg1_6 hcg1_7 hfg1_7 hcg1_8 hfg1_8
      obtain ⟨j, rfl, rfl, Hj, BKg1, HB⟩ := hrel
      have hb := ustep_bound ha.dig (4 - j) (by omega)
      have hj4 := Hj.out
      cases j with
      | zero =>
        obtain ⟨X, hX⟩ : ∃ X, X = ustep a 4 := ⟨_, rfl⟩
        rw [show ustep a (4 - 0) = X from by rw [hX], show (((0 : Nat) : Int) - 1) = -1 from rfl]
        have hX0 : 0 ≤ X := by rw [hX]; exact hb.1
        have hX1 : X < 18446744073709551616 := by rw [hX]; have := hb.2; rw [← pw4]; exact this
        have hc0 : wr.cell? ⟨g1, 0, none⟩ = some (.bool m) := (blk_cell BKg1.out 0).trans rfl
        have HX := Lib.hid hX; clear hX hb
        cases m with
        | true =>
          go_wp2
          go_ret
          refine ⟨ret_int ?_, HB.out⟩
          have gv := GI.out; (try simp only [if_true, Bool.false_eq_true, if_false]); unfold sat; (repeat' split) <;> omega
        | false =>
          go_wp2
          go_ret
          refine ⟨ret_int ?_, HB.out⟩
          have gv := GI.out; (try simp only [if_true, Bool.false_eq_true, if_false]); unfold sat; (repeat' split) <;> omega
      | succ j =>
        obtain ⟨X, hX⟩ : ∃ X, X = ustep a (4 - (j + 1)) := ⟨_, rfl⟩
        obtain ⟨x, hx⟩ : ∃ x, x = a j := ⟨_, rfl⟩
        rw [← hX, show (((j + 1 : Nat) : Int) - 1) = (j : Int) from by omega]
        rw [← hX] at hb
        obtain ⟨x0, x1⟩ := ha.dig j (by omega); rw [← hx] at x0 x1
        have hp3 := pw_le3 (4 - (j + 1)) (by omega)
        have hX0 : 0 ≤ X := hb.1; have hX1 : X < 281474976710656 := by omega
        have hst : X * 65536 + x = ustep a (4 - j) := by rw [show 4 - j = (4 - (j + 1)) + 1 from by omega]; simp only [ustep]; rw [← hX, show 3 - (4 - (j + 1)) = j from by omega, hx]
        have HS := Lib.hid hst; have hc0 : wr.cell? ⟨g1, 1 + j, none⟩ = some (.int .i64 x) := (blk_cell BKg1.out (1 + j)).trans ((big_get m a (by omega)).trans (by rw [hx]))
        clear hst hX hx hb hp3
        go_wp2
        exact ⟨⟨j, congrArg (Value.int .u64) HS.out, rfl, ⟨by omega⟩, BKg1, HB⟩, by simp [intOf]⟩
  ·
    go_enter Tryd.func46, Tryd.ntmps46
    go_wp2_with (first | ((with_reducible refine gate_dst (N := 1) rfl ?_); refine box_event ?hg (N := 1) ?hd (cs := (bigA m a)) (t := 60) ?hr ?_; (case hd => rfl); (case hg => rfl); (case hr => first | (go_simp; done) | (go_simp; rfl)); intro g1 hg_ W1 hbox_ hb_; have GEg1 := Aside0.mk ((by rw [hg_]; exact (below_size HB.out)) : w.heap.size ≤ g1); clear hg_; have n_ := Aside0.mk (below_step HB.out hb_); clear HB; have HB := n_; clear n_; have BKg1 := Aside0.mk hbox_; clear hbox_ hb_; have hcg1_0 : W1.cell? ⟨g1, 0, none⟩ = some (.bool m) := (blk_cell BKg1.out 0).trans rfl; have hfg1_0 := blk_frozen BKg1.out 0; have hcg1_1 : W1.cell? ⟨g1, 1, none⟩ = some (.int .i64 (a 0)) := (blk_cell BKg1.out 1).trans rfl; have hfg1_1 := blk_frozen BKg1.out 1; have hcg1_2 : W1.cell? ⟨g1, 2, none⟩ = some (.int .i64 (a 1)) := (blk_cell BKg1.out 2).trans rfl; have hfg1_2 := blk_frozen BKg1.out 2; have hcg1_3 : W1.cell? ⟨g1, 3, none⟩ = some (.int .i64 (a 2)) := (blk_cell BKg1.out 3).trans rfl; have hfg1_3 := blk_frozen BKg1.out 3; have hcg1_4 : W1.cell? ⟨g1, 4, none⟩ = some (.int .i64 (a 3)) := (blk_cell BKg1.out 4).trans rfl; have hfg1_4 := blk_frozen BKg1.out 4; have hcg1_5 : W1.cell? ⟨g1, 5, none⟩ = some (.int .i64 (a 4)) := (blk_cell BKg1.out 5).trans rfl; have hfg1_5 := blk_frozen BKg1.out 5; have hcg1_6 : W1.cell? ⟨g1, 6, none⟩ = some (.int .i64 (a 5)) := (blk_cell BKg1.out 6).trans rfl; have hfg1_6 := blk_frozen BKg1.out 6; have hcg1_7 : W1.cell? ⟨g1, 7, none⟩ = some (.int .i64 (a 6)) := (blk_cell BKg1.out 7).trans rfl; have hfg1_7 := blk_frozen BKg1.out 7; have hcg1_8 : W1.cell? ⟨g1, 8, none⟩ = some (.int .i64 (a 7)) := (blk_cell BKg1.out 8).trans rfl; have hfg1_8 := blk_frozen BKg1.out 8))
    go_loopw [3, 5] (fun vu vi wr => ∃ (j : Nat), vu = .int .u64 (ustep a (4 - j)) ∧ vi = .int .i64 ((j : Int) - 1) ∧ Aside0 (j ≤ 4) ∧ Aside0 (wr.heap[g1]? = some (.cells (bigA m a) 60 (0, 0))) ∧ Aside0 (Below w.heap.size w wr)) (fun _ vi _ => (intOf vi + 1).toNat)
    case atStart => exact ⟨4, rfl, rfl, ⟨by omega⟩, BKg1, HB⟩
    case round =>
      clear BKg1 HB hcg1_0 hfg1_0 hcg1_1 hfg1_1 hcg1_2 hfg1_2 hcg1_3 hfg1_3 hcg1_4 hfg1_4 hcg1_5 hfg1_5 hcg1_6 hfg1_6 hcg1_7 hfg1_7 hcg1_8 hfg1_8
      obtain ⟨j, rfl, rfl, Hj, BKg1, HB⟩ := hrel
      have hb := ustep_bound ha.dig (4 - j) (by omega)
      have hj4 := Hj.out
      cases j with
      | zero =>
        obtain ⟨X, hX⟩ : ∃ X, X = ustep a 4 := ⟨_, rfl⟩
        rw [show ustep a (4 - 0) = X from by rw [hX], show (((0 : Nat) : Int) - 1) = -1 from rfl]
        have hX0 : 0 ≤ X := by rw [hX]; exact hb.1
        have hX1 : X < 18446744073709551616 := by rw [hX]; have := hb.2; rw [← pw4]; exact this
        have hc0 : wr.cell? ⟨g1, 0, none⟩ = some (.bool m) := (blk_cell BKg1.out 0).trans rfl
        have HX := Lib.hid hX; clear hX hb
        cases m with
        | true =>
          go_wp2
          go_ret
          refine ⟨ret_int ?_, HB.out⟩
          have gv := GI.out; (try simp only [if_true, Bool.false_eq_true, if_false]); unfold sat; (repeat' split) <;> omega
        | false =>
          go_wp2
          go_ret
          refine ⟨ret_int ?_, HB.out⟩
          have gv := GI.out; (try simp only [if_true, Bool.false_eq_true, if_false]); unfold sat; (repeat' split) <;> omega
      | succ j =>
        obtain ⟨X, hX⟩ : ∃ X, X = ustep a (4 - (j + 1)) := ⟨_, rfl⟩
        obtain ⟨x, hx⟩ : ∃ x, x = a j := ⟨_, rfl⟩
        rw [← hX, show (((j + 1 : Nat) : Int) - 1) = (j : Int) from by omega]
        rw [← hX] at hb
        obtain ⟨x0, x1⟩ := ha.dig j (by omega); rw [← hx] at x0 x1
        have hp3 := pw_le3 (4 - (j + 1)) (by omega)
        have hX0 : 0 ≤ X := hb.1; have hX1 : X < 281474976710656 := by omega
        have hst : X * 65536 + x = ustep a (4 - j) := by rw [show 4 - j = (4 - (j + 1)) + 1 from by omega]; simp only [ustep]; rw [← hX, show 3 - (4 - (j + 1)) = j from by omega, hx]
        have HS := Lib.hid hst; have hc0 : wr.cell? ⟨g1, 1 + j, none⟩ = some (.int .i64 x) := (blk_cell BKg1.out (1 + j)).trans ((big_get m a (by omega)).trans (by rw [hx]))
        clear hst hX hx hb hp3
        go_wp2
        exact ⟨⟨j, congrArg (Value.int .u64) HS.out, rfl, ⟨by omega⟩, BKg1, HB⟩, by simp [intOf]⟩
  ·
    go_enter Tryd.func46, Tryd.ntmps46
    go_wp2_with (first | ((with_reducible refine gate_dst (N := 1) rfl ?_); refine box_event ?hg (N := 1) ?hd (cs := (bigA m a)) (t := 60) ?hr ?_; (case hd => rfl); (case hg => rfl); (case hr => first | (go_simp; done) | (go_simp; rfl)); intro g1 hg_ W1 hbox_ hb_; have GEg1 := Aside0.mk ((by rw [hg_]; exact (below_size HB.out)) : w.heap.size ≤ g1); clear hg_; have n_ := Aside0.mk (below_step HB.out hb_); clear HB; have HB := n_; clear n_; have BKg1 := Aside0.mk hbox_; clear hbox_ hb_; have hcg1_0 : W1.cell? ⟨g1, 0, none⟩ = some (.bool m) := (blk_cell BKg1.out 0).trans rfl; have hfg1_0 := blk_frozen BKg1.out 0; have hcg1_1 : W1.cell? ⟨g1, 1, none⟩ = some (.int .i64 (a 0)) := (blk_cell BKg1.out 1).trans rfl; have hfg1_1 := blk_frozen BKg1.out 1; have hcg1_2 : W1.cell? ⟨g1, 2, none⟩ = some (.int .i64 (a 1)) := (blk_cell BKg1.out 2).trans rfl; have hfg1_2 := blk_frozen BKg1.out 2; have hcg1_3 : W1.cell? ⟨g1, 3, none⟩ = some (.int .i64 (a 2)) := (blk_cell BKg1.out 3).trans rfl; have hfg1_3 := blk_frozen BKg1.out 3; have hcg1_4 : W1.cell? ⟨g1, 4, none⟩ = some (.int .i64 (a 3)) := (blk_cell BKg1.out 4).trans rfl; have hfg1_4 := blk_frozen BKg1.out 4; have hcg1_5 : W1.cell? ⟨g1, 5, none⟩ = some (.int .i64 (a 4)) := (blk_cell BKg1.out 5).trans rfl; have hfg1_5 := blk_frozen BKg1.out 5; have hcg1_6 : W1.cell? ⟨g1, 6, none⟩ = some (.int .i64 (a 5)) := (blk_cell BKg1.out 6).trans rfl; have hfg1_6 := blk_frozen BKg1.out 6; have hcg1_7 : W1.cell? ⟨g1, 7, none⟩ = some (.int .i64 (a 6)) := (blk_cell BKg1.out 7).trans rfl; have hfg1_7 := blk_frozen BKg1.out 7; have hcg1_8 : W1.cell? ⟨g1, 8, none⟩ = some (.int .i64 (a 7)) := (blk_cell BKg1.out 8).trans rfl; have hfg1_8 := blk_frozen BKg1.out 8))
    go_loopw [3, 5] (fun vu vi wr => ∃ (j : Nat), vu = .int .u64 (ustep a (4 - j)) ∧ vi = .int .i64 ((j : Int) - 1) ∧ Aside0 (j ≤ 4) ∧ Aside0 (wr.heap[g1]? = some (.cells (bigA m a) 60 (0, 0))) ∧ Aside0 (Below w.heap.size w wr)) (fun _ vi _ => (intOf vi + 1).toNat)
    case atStart => exact ⟨4, rfl, rfl, ⟨by omega⟩, BKg1, HB⟩
    case round =>
      clear BKg1 HB hcg1_0 hfg1_0 hcg1_1 hfg1_1 hcg1_2 hfg1_2 hcg1_3 hfg1_3 hcg1_4 hfg1_4 hcg1_5 hfg1_5 hcg1_6 hfg1_6 hcg1_7 hfg1_7 hcg1_8 hfg1_8
      obtain ⟨j, rfl, rfl, Hj, BKg1, HB⟩ := hrel
      have hb := ustep_bound ha.dig (4 - j) (by omega)
      have hj4 := Hj.out
      cases j with
      | zero =>
        obtain ⟨X, hX⟩ : ∃ X, X = ustep a 4 := ⟨_, rfl⟩
        rw [show ustep a (4 - 0) = X from by rw [hX], show (((0 : Nat) : Int) - 1) = -1 from rfl]
        have hX0 : 0 ≤ X := by rw [hX]; exact hb.1
        have hX1 : X < 18446744073709551616 := by rw [hX]; have := hb.2; rw [← pw4]; exact this
        have hc0 : wr.cell? ⟨g1, 0, none⟩ = some (.bool m) := (blk_cell BKg1.out 0).trans rfl
        have HX := Lib.hid hX; clear hX hb
        have HV : Hid (V = X) := Lib.hid (by have := (ha.high (m := 4) (by omega) (by rw [pw4]; have := GI.out; omega)).2; rw [HX.out, ustep4]; exact this.symm)
        have hX2 : X ≤ 9223372036854775807 := by have := GI.out; rw [← HV.out]; omega
        cases m with
        | true =>
          go_wp2
          go_ret
          refine ⟨ret_int ?_, HB.out⟩
          rw [HV.out]; (try simp only [if_true, Bool.false_eq_true, if_false]); unfold sat; (repeat' split) <;> omega
        | false =>
          go_wp2
          go_ret
          refine ⟨ret_int ?_, HB.out⟩
          rw [HV.out]; (try simp only [if_true, Bool.false_eq_true, if_false]); unfold sat; (repeat' split) <;> omega
      | succ j =>
        obtain ⟨X, hX⟩ : ∃ X, X = ustep a (4 - (j + 1)) := ⟨_, rfl⟩
        obtain ⟨x, hx⟩ : ∃ x, x = a j := ⟨_, rfl⟩
        rw [← hX, show (((j + 1 : Nat) : Int) - 1) = (j : Int) from by omega]
        rw [← hX] at hb
        obtain ⟨x0, x1⟩ := ha.dig j (by omega); rw [← hx] at x0 x1
        have hp3 := pw_le3 (4 - (j + 1)) (by omega)
        have hX0 : 0 ≤ X := hb.1; have hX1 : X < 281474976710656 := by omega
        have hst : X * 65536 + x = ustep a (4 - j) := by rw [show 4 - j = (4 - (j + 1)) + 1 from by omega]; simp only [ustep]; rw [← hX, show 3 - (4 - (j + 1)) = j from by omega, hx]
        have HS := Lib.hid hst; have hc0 : wr.cell? ⟨g1, 1 + j, none⟩ = some (.int .i64 x) := (blk_cell BKg1.out (1 + j)).trans ((big_get m a (by omega)).trans (by rw [hx]))
        clear hst hX hx hb hp3
        go_wp2
        exact ⟨⟨j, congrArg (Value.int .u64) HS.out, rfl, ⟨by omega⟩, BKg1, HB⟩, by simp [intOf]⟩
set_option maxHeartbeats 8000000 in
set_option maxRecDepth 100000 in
theorem compare_calls (ma mb : Bool) (a b : Nat → Int) (A B : Int) (w : World) (ha : Rep a A) (hb : Rep b B) :
    Calls Tryd.prog 49 #[.agg (bigA ma a), .agg (bigA mb b)] w
      fun e w' => e = .returned (.int .i64 (cmpI A B)) ∧ Below w.heap.size w w' := by
  have HB := Aside0.mk (Below.refl w.heap.size w)
  go_enter Tryd.func49, Tryd.ntmps49
  go_wp2_with (first | ((with_reducible refine gate_dst (N := 2) rfl ?_); refine box_event ?hg (N := 2) ?hd (cs := (bigA ma a)) (t := 60) ?hr ?_; (case hd => rfl); (case hg => rfl); (case hr => first | (go_simp; done) | (go_simp; rfl)); intro g1 hg_ W1 hbox_ hb_; have GEg1 := Aside0.mk ((by rw [hg_]; exact (below_size HB.out)) : w.heap.size ≤ g1); clear hg_; have n_ := Aside0.mk (below_step HB.out hb_); clear HB; have HB := n_; clear n_; have BKg1 := Aside0.mk hbox_; clear hbox_ hb_; have hcg1_0 : W1.cell? ⟨g1, 0, none⟩ = some (.bool ma) := (blk_cell BKg1.out 0).trans rfl; have hfg1_0 := blk_frozen BKg1.out 0; have hcg1_1 : W1.cell? ⟨g1, 1, none⟩ = some (.int .i64 (a 0)) := (blk_cell BKg1.out 1).trans rfl; have hfg1_1 := blk_frozen BKg1.out 1; have hcg1_2 : W1.cell? ⟨g1, 2, none⟩ = some (.int .i64 (a 1)) := (blk_cell BKg1.out 2).trans rfl; have hfg1_2 := blk_frozen BKg1.out 2; have hcg1_3 : W1.cell? ⟨g1, 3, none⟩ = some (.int .i64 (a 2)) := (blk_cell BKg1.out 3).trans rfl; have hfg1_3 := blk_frozen BKg1.out 3; have hcg1_4 : W1.cell? ⟨g1, 4, none⟩ = some (.int .i64 (a 3)) := (blk_cell BKg1.out 4).trans rfl; have hfg1_4 := blk_frozen BKg1.out 4; have hcg1_5 : W1.cell? ⟨g1, 5, none⟩ = some (.int .i64 (a 4)) := (blk_cell BKg1.out 5).trans rfl; have hfg1_5 := blk_frozen BKg1.out 5; have hcg1_6 : W1.cell? ⟨g1, 6, none⟩ = some (.int .i64 (a 5)) := (blk_cell BKg1.out 6).trans rfl; have hfg1_6 := blk_frozen BKg1.out 6; have hcg1_7 : W1.cell? ⟨g1, 7, none⟩ = some (.int .i64 (a 6)) := (blk_cell BKg1.out 7).trans rfl; have hfg1_7 := blk_frozen BKg1.out 7; have hcg1_8 : W1.cell? ⟨g1, 8, none⟩ = some (.int .i64 (a 7)) := (blk_cell BKg1.out 8).trans rfl; have hfg1_8 := blk_frozen BKg1.out 8) | ((with_reducible refine gate_dst (N := 3) rfl ?_); refine box_event ?hg (N := 3) ?hd (cs := (bigA mb b)) (t := 60) ?hr ?_; (case hd => rfl); (case hg => rfl); (case hr => first | (go_simp; done) | (go_simp; rfl)); intro g2 hg_ W2 hbox_ hb_; have GEg2 := Aside0.mk ((by rw [hg_]; exact (below_size HB.out)) : w.heap.size ≤ g2); have NBg1_g2 : g1 ≠ g2 := (by rw [hg_]; exact Nat.ne_of_lt (blk_lt BKg1.out)); have NBg2_g1 : g2 ≠ g1 := Ne.symm NBg1_g2; clear hg_; have n_ := Aside0.mk (blk_below BKg1.out hb_); clear BKg1; have BKg1 := n_; clear n_; clear hcg1_0 hfg1_0; clear hcg1_1 hfg1_1; clear hcg1_2 hfg1_2; clear hcg1_3 hfg1_3; clear hcg1_4 hfg1_4; clear hcg1_5 hfg1_5; clear hcg1_6 hfg1_6; clear hcg1_7 hfg1_7; clear hcg1_8 hfg1_8; have n_ := Aside0.mk (below_step HB.out hb_); clear HB; have HB := n_; clear n_; have BKg2 := Aside0.mk hbox_; clear hbox_ hb_; have hcg1_0 : W2.cell? ⟨g1, 0, none⟩ = some (.bool ma) := (blk_cell BKg1.out 0).trans rfl; have hfg1_0 := blk_frozen BKg1.out 0; have hcg1_1 : W2.cell? ⟨g1, 1, none⟩ = some (.int .i64 (a 0)) := (blk_cell BKg1.out 1).trans rfl; have hfg1_1 := blk_frozen BKg1.out 1; have hcg1_2 : W2.cell? ⟨g1, 2, none⟩ = some (.int .i64 (a 1)) := (blk_cell BKg1.out 2).trans rfl; have hfg1_2 := blk_frozen BKg1.out 2; have hcg1_3 : W2.cell? ⟨g1, 3, none⟩ = some (.int .i64 (a 2)) := (blk_cell BKg1.out 3).trans rfl; have hfg1_3 := blk_frozen BKg1.out 3; have hcg1_4 : W2.cell? ⟨g1, 4, none⟩ = some (.int .i64 (a 3)) := (blk_cell BKg1.out 4).trans rfl; have hfg1_4 := blk_frozen BKg1.out 4; have hcg1_5 : W2.cell? ⟨g1, 5, none⟩ = some (.int .i64 (a 4)) := (blk_cell BKg1.out 5).trans rfl; have hfg1_5 := blk_frozen BKg1.out 5; have hcg1_6 : W2.cell? ⟨g1, 6, none⟩ = some (.int .i64 (a 5)) := (blk_cell BKg1.out 6).trans rfl; have hfg1_6 := blk_frozen BKg1.out 6; have hcg1_7 : W2.cell? ⟨g1, 7, none⟩ = some (.int .i64 (a 6)) := (blk_cell BKg1.out 7).trans rfl; have hfg1_7 := blk_frozen BKg1.out 7; have hcg1_8 : W2.cell? ⟨g1, 8, none⟩ = some (.int .i64 (a 7)) := (blk_cell BKg1.out 8).trans rfl; have hfg1_8 := blk_frozen BKg1.out 8; have hcg2_0 : W2.cell? ⟨g2, 0, none⟩ = some (.bool mb) := (blk_cell BKg2.out 0).trans rfl; have hfg2_0 := blk_frozen BKg2.out 0; have hcg2_1 : W2.cell? ⟨g2, 1, none⟩ = some (.int .i64 (b 0)) := (blk_cell BKg2.out 1).trans rfl; have hfg2_1 := blk_frozen BKg2.out 1; have hcg2_2 : W2.cell? ⟨g2, 2, none⟩ = some (.int .i64 (b 1)) := (blk_cell BKg2.out 2).trans rfl; have hfg2_2 := blk_frozen BKg2.out 2; have hcg2_3 : W2.cell? ⟨g2, 3, none⟩ = some (.int .i64 (b 2)) := (blk_cell BKg2.out 3).trans rfl; have hfg2_3 := blk_frozen BKg2.out 3; have hcg2_4 : W2.cell? ⟨g2, 4, none⟩ = some (.int .i64 (b 3)) := (blk_cell BKg2.out 4).trans rfl; have hfg2_4 := blk_frozen BKg2.out 4; have hcg2_5 : W2.cell? ⟨g2, 5, none⟩ = some (.int .i64 (b 4)) := (blk_cell BKg2.out 5).trans rfl; have hfg2_5 := blk_frozen BKg2.out 5; have hcg2_6 : W2.cell? ⟨g2, 6, none⟩ = some (.int .i64 (b 5)) := (blk_cell BKg2.out 6).trans rfl; have hfg2_6 := blk_frozen BKg2.out 6; have hcg2_7 : W2.cell? ⟨g2, 7, none⟩ = some (.int .i64 (b 6)) := (blk_cell BKg2.out 7).trans rfl; have hfg2_7 := blk_frozen BKg2.out 7; have hcg2_8 : W2.cell? ⟨g2, 8, none⟩ = some (.int .i64 (b 7)) := (blk_cell BKg2.out 8).trans rfl; have hfg2_8 := blk_frozen BKg2.out 8))
  go_loopw [5] (fun vi wr => ∃ (j : Nat), vi = .int .i64 ((j : Int) - 1) ∧ Aside0 (j ≤ 8) ∧ Aside0 (Alike8 a b j) ∧ Aside0 (wr.heap[g1]? = some (.cells (bigA ma a) 60 (0, 0))) ∧ Aside0 (wr.heap[g2]? = some (.cells (bigA mb b) 60 (0, 0))) ∧ Aside0 (Below w.heap.size w wr)) (fun vi _ => (intOf vi + 1).toNat)
  case atStart => exact ⟨8, rfl, ⟨by omega⟩, ⟨fun i h1 h2 => by omega⟩, BKg1, BKg2, HB⟩
  case round =>
    clear BKg1 BKg2 HB hcg1_0 hfg1_0 hcg1_1 hfg1_1 hcg1_2 hfg1_2 hcg1_3 hfg1_3 hcg1_4 hfg1_4 hcg1_5 hfg1_5 hcg1_6 hfg1_6 hcg1_7 hfg1_7 hcg1_8 hfg1_8 hcg2_0 hfg2_0 hcg2_1 hfg2_1 hcg2_2 hfg2_2 hcg2_3 hfg2_3 hcg2_4 hfg2_4 hcg2_5 hfg2_5 hcg2_6 hfg2_6 hcg2_7 hfg2_7 hcg2_8 hfg2_8
    obtain ⟨j, rfl, Hj, HA, BKg1, BKg2, HB⟩ := hrel
    have hj8 := Hj.out
    cases j with
    | zero =>
      have he := Lib.hid (cmpI_eq (by rw [← ha.val, ← hb.val]; exact HA.out.eq) : cmpI A B = 0)
      rw [show (((0 : Nat) : Int) - 1) = -1 from rfl]
      go_wp2
      go_ret
      exact ⟨ret_int he.out.symm, HB.out⟩
    | succ j =>
      rw [show (((j + 1 : Nat) : Int) - 1) = (j : Int) from by omega]
      obtain ⟨x, hx⟩ : ∃ x, x = a j := ⟨_, rfl⟩
      obtain ⟨y, hy⟩ : ∃ y, y = b j := ⟨_, rfl⟩
      have c1 : wr.cell? ⟨g1, 1 + j, none⟩ = some (.int .i64 x) := (blk_cell BKg1.out (1 + j)).trans ((big_get ma a (by omega)).trans (by rw [hx]))
      have c2 : wr.cell? ⟨g2, 1 + j, none⟩ = some (.int .i64 y) := (blk_cell BKg2.out (1 + j)).trans ((big_get mb b (by omega)).trans (by rw [hy]))
      have HX := Lib.hid hx; have HY := Lib.hid hy; clear hx hy
      rcases Int.lt_trichotomy x y with q | q | q
      · have he := Lib.hid (cmpI_lt (show A < B from by rw [← ha.val, ← hb.val]; exact cmp_lt ha.dig hb.dig (j := j) (by omega) (by rw [← HX.out, ← HY.out]; exact q) (fun i h1 h2 => HA.out i (by omega) h2)))
        go_wp2
        go_quiet (fail)
        go_wp2
        go_ret
        exact ⟨ret_int he.out.symm, pw_below_drewN HB.out nq⟩
      · have q1 : decide (x < y) = false := decide_eq_false (by omega)
        have q2 : decide (y < x) = false := decide_eq_false (by omega)
        have hq := Lib.hid q; clear q
        go_wp2
        go_quiet (fail)
        go_wp2
        go_quiet (fail)
        go_wp2
        exact ⟨⟨j, rfl, ⟨by omega⟩, ⟨HA.out.step (by rw [← HX.out, ← HY.out]; exact hq.out)⟩, ⟨BKg1.out⟩, ⟨BKg2.out⟩, ⟨pw_below_drewN HB.out _⟩⟩, by simp [intOf]⟩
      · have he := Lib.hid (cmpI_gt (show B < A from by rw [← ha.val, ← hb.val]; exact cmp_lt hb.dig ha.dig (j := j) (by omega) (by rw [← HX.out, ← HY.out]; exact q) (fun i h1 h2 => (HA.out i (by omega) h2).symm)))
        have q1 : decide (x < y) = false := decide_eq_false (by omega)
        go_wp2
        go_quiet (fail)
        go_wp2
        go_quiet (fail)
        go_wp2
        go_ret
        exact ⟨ret_int he.out.symm, pw_below_drewN (pw_below_drewN HB.out _) _⟩
end Go.Proofs.YtcnibfancjofhaaDoor
