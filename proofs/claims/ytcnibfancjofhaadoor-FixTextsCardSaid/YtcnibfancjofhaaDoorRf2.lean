/- Merged: RfF RfG RfH RfI -/
import Derived.Test.YtcnibfancjofhaaDoorRf1
import Derived.Test.YtcnibfancjofhaaDoorRfE
import Derived.Deep.DeepCutAuto
import Derived.Deep.CutBlock
import Derived.Deep.CutRange
import Derived.Deep.Cut
import Derived.Test.YtcnibfancjofhaaDoorFpQ
import Derived.Test.YtcnibfancjofhaaDoorFixM
/- The reference's great numbers: double, less. -/
namespace Go.Proofs.YtcnibfancjofhaaDoor
open Go.RowKit Go.Proofs.YtcnibfancjofhaaDoorW.PrintWords Go.Proofs.YtcnibfancjofhaaDoorW.PrintLast Go.Proofs.YtcnibfancjofhaaDoorW.PrintMore
set_option linter.unusedVariables false
set_option linter.unusedSimpArgs false
set_option maxHeartbeats 8000000 in
set_option maxRecDepth 100000 in
theorem double_calls (m : Bool) (a : Nat → Int) (x V : Int) (w : World) (ha : Rep a V) (h0 : 0 ≤ x) (h1 : x ≤ 1) (hV : 2 * V + x < 340282366920938463463374607431768211456) :
    Calls Tryd.prog 64 #[.agg (bigA m a), .int .i64 x] w
      fun e w' => ∃ D, e = .returned (.agg (bigA m D)) ∧ Rep D (2 * V + x) ∧ Below w.heap.size w w' := by
  have HB := Aside0.mk (Below.refl w.heap.size w)
  go_enter Tryd.func64, Tryd.ntmps64
  go_wp2_with (first | ((with_reducible refine gate_dst (N := 2) rfl ?_); refine box_event ?hg (N := 2) ?hd (cs := (bigA m a)) (t := 60) ?hr ?_; (case hd => rfl); (case hg => rfl); (case hr => first | (go_simp; done) | (go_simp; rfl)); intro g2 hg_ W1 hbox_ hb_; have GEg2 := Aside0.mk ((by rw [hg_]; exact (below_size HB.out)) : w.heap.size ≤ g2); clear hg_; have n_ := Aside0.mk (below_step HB.out hb_); clear HB; have HB := n_; clear n_; have BKg2 := Aside0.mk hbox_; clear hbox_ hb_; have hcg2_0 : W1.cell? ⟨g2, 0, none⟩ = some (.bool m) := (blk_cell BKg2.out 0).trans rfl; have hfg2_0 := blk_frozen BKg2.out 0; have hcg2_1 : W1.cell? ⟨g2, 1, none⟩ = some (.int .i64 (a 0)) := (blk_cell BKg2.out 1).trans rfl; have hfg2_1 := blk_frozen BKg2.out 1; have hcg2_2 : W1.cell? ⟨g2, 2, none⟩ = some (.int .i64 (a 1)) := (blk_cell BKg2.out 2).trans rfl; have hfg2_2 := blk_frozen BKg2.out 2; have hcg2_3 : W1.cell? ⟨g2, 3, none⟩ = some (.int .i64 (a 2)) := (blk_cell BKg2.out 3).trans rfl; have hfg2_3 := blk_frozen BKg2.out 3; have hcg2_4 : W1.cell? ⟨g2, 4, none⟩ = some (.int .i64 (a 3)) := (blk_cell BKg2.out 4).trans rfl; have hfg2_4 := blk_frozen BKg2.out 4; have hcg2_5 : W1.cell? ⟨g2, 5, none⟩ = some (.int .i64 (a 4)) := (blk_cell BKg2.out 5).trans rfl; have hfg2_5 := blk_frozen BKg2.out 5; have hcg2_6 : W1.cell? ⟨g2, 6, none⟩ = some (.int .i64 (a 5)) := (blk_cell BKg2.out 6).trans rfl; have hfg2_6 := blk_frozen BKg2.out 6; have hcg2_7 : W1.cell? ⟨g2, 7, none⟩ = some (.int .i64 (a 6)) := (blk_cell BKg2.out 7).trans rfl; have hfg2_7 := blk_frozen BKg2.out 7; have hcg2_8 : W1.cell? ⟨g2, 8, none⟩ = some (.int .i64 (a 7)) := (blk_cell BKg2.out 8).trans rfl; have hfg2_8 := blk_frozen BKg2.out 8) | ((with_reducible refine gate_dst (N := 4) rfl ?_); refine box_event ?hg (N := 4) ?hd (cs := #[.bool false, .int .i64 0, .int .i64 0, .int .i64 0, .int .i64 0, .int .i64 0, .int .i64 0, .int .i64 0, .int .i64 0]) (t := 60) ?hr ?_; (case hd => rfl); (case hg => rfl); (case hr => first | (go_simp; done) | (go_simp; rfl)); intro g4 hg_ W2 hbox_ hb_; have GEg4 := Aside0.mk ((by rw [hg_]; exact (below_size HB.out)) : w.heap.size ≤ g4); have NBg2_g4 : g2 ≠ g4 := (by rw [hg_]; exact Nat.ne_of_lt (blk_lt BKg2.out)); have NBg4_g2 : g4 ≠ g2 := Ne.symm NBg2_g4; clear hg_; have n_ := Aside0.mk (blk_below BKg2.out hb_); clear BKg2; have BKg2 := n_; clear n_; clear hcg2_0 hfg2_0; clear hcg2_1 hfg2_1; clear hcg2_2 hfg2_2; clear hcg2_3 hfg2_3; clear hcg2_4 hfg2_4; clear hcg2_5 hfg2_5; clear hcg2_6 hfg2_6; clear hcg2_7 hfg2_7; clear hcg2_8 hfg2_8; have n_ := Aside0.mk (below_step HB.out hb_); clear HB; have HB := n_; clear n_; have BKg4 := Aside0.mk hbox_; clear hbox_ hb_; have hcg2_0 : W2.cell? ⟨g2, 0, none⟩ = some (.bool m) := (blk_cell BKg2.out 0).trans rfl; have hfg2_0 := blk_frozen BKg2.out 0; have hcg2_1 : W2.cell? ⟨g2, 1, none⟩ = some (.int .i64 (a 0)) := (blk_cell BKg2.out 1).trans rfl; have hfg2_1 := blk_frozen BKg2.out 1; have hcg2_2 : W2.cell? ⟨g2, 2, none⟩ = some (.int .i64 (a 1)) := (blk_cell BKg2.out 2).trans rfl; have hfg2_2 := blk_frozen BKg2.out 2; have hcg2_3 : W2.cell? ⟨g2, 3, none⟩ = some (.int .i64 (a 2)) := (blk_cell BKg2.out 3).trans rfl; have hfg2_3 := blk_frozen BKg2.out 3; have hcg2_4 : W2.cell? ⟨g2, 4, none⟩ = some (.int .i64 (a 3)) := (blk_cell BKg2.out 4).trans rfl; have hfg2_4 := blk_frozen BKg2.out 4; have hcg2_5 : W2.cell? ⟨g2, 5, none⟩ = some (.int .i64 (a 4)) := (blk_cell BKg2.out 5).trans rfl; have hfg2_5 := blk_frozen BKg2.out 5; have hcg2_6 : W2.cell? ⟨g2, 6, none⟩ = some (.int .i64 (a 5)) := (blk_cell BKg2.out 6).trans rfl; have hfg2_6 := blk_frozen BKg2.out 6; have hcg2_7 : W2.cell? ⟨g2, 7, none⟩ = some (.int .i64 (a 6)) := (blk_cell BKg2.out 7).trans rfl; have hfg2_7 := blk_frozen BKg2.out 7; have hcg2_8 : W2.cell? ⟨g2, 8, none⟩ = some (.int .i64 (a 7)) := (blk_cell BKg2.out 8).trans rfl; have hfg2_8 := blk_frozen BKg2.out 8; have hcg4_0 : W2.cell? ⟨g4, 0, none⟩ = some (.bool false) := (blk_cell BKg4.out 0).trans rfl; have hfg4_0 := blk_frozen BKg4.out 0; have hcg4_1 : W2.cell? ⟨g4, 1, none⟩ = some (.int .i64 0) := (blk_cell BKg4.out 1).trans rfl; have hfg4_1 := blk_frozen BKg4.out 1; have hcg4_2 : W2.cell? ⟨g4, 2, none⟩ = some (.int .i64 0) := (blk_cell BKg4.out 2).trans rfl; have hfg4_2 := blk_frozen BKg4.out 2; have hcg4_3 : W2.cell? ⟨g4, 3, none⟩ = some (.int .i64 0) := (blk_cell BKg4.out 3).trans rfl; have hfg4_3 := blk_frozen BKg4.out 3; have hcg4_4 : W2.cell? ⟨g4, 4, none⟩ = some (.int .i64 0) := (blk_cell BKg4.out 4).trans rfl; have hfg4_4 := blk_frozen BKg4.out 4; have hcg4_5 : W2.cell? ⟨g4, 5, none⟩ = some (.int .i64 0) := (blk_cell BKg4.out 5).trans rfl; have hfg4_5 := blk_frozen BKg4.out 5; have hcg4_6 : W2.cell? ⟨g4, 6, none⟩ = some (.int .i64 0) := (blk_cell BKg4.out 6).trans rfl; have hfg4_6 := blk_frozen BKg4.out 6; have hcg4_7 : W2.cell? ⟨g4, 7, none⟩ = some (.int .i64 0) := (blk_cell BKg4.out 7).trans rfl; have hfg4_7 := blk_frozen BKg4.out 7; have hcg4_8 : W2.cell? ⟨g4, 8, none⟩ = some (.int .i64 0) := (blk_cell BKg4.out 8).trans rfl; have hfg4_8 := blk_frozen BKg4.out 8))
  go_loopw [5, 6] (fun vo vi wr => ∃ (k : Nat) (o : Int) (D : Nat → Int), vo = .int .i64 o ∧ vi = .int .i64 k ∧ Aside0 (DbR a x k o D) ∧ Aside0 (wr.heap[g2]? = some (.cells (bigA m D) 60 (0, 0))) ∧ Aside0 (wr.heap[g4]? = some (.cells #[.bool false, .int .i64 0, .int .i64 0, .int .i64 0, .int .i64 0, .int .i64 0, .int .i64 0, .int .i64 0, .int .i64 0] 60 (0, 0))) ∧ Aside0 (Below w.heap.size w wr)) (fun _ vi _ => 8 - (intOf vi).toNat)
  case atStart => exact ⟨0, x, a, rfl, rfl, ⟨DbR.start ha.dig h0 h1⟩, BKg2, BKg4, HB⟩
  case round =>
    clear BKg2 BKg4 HB hcg2_0 hfg2_0 hcg2_1 hfg2_1 hcg2_2 hfg2_2 hcg2_3 hfg2_3 hcg2_4 hfg2_4 hcg2_5 hfg2_5 hcg2_6 hfg2_6 hcg2_7 hfg2_7 hcg2_8 hfg2_8 hcg4_0 hfg4_0 hcg4_1 hfg4_1 hcg4_2 hfg4_2 hcg4_3 hfg4_3 hcg4_4 hfg4_4 hcg4_5 hfg4_5 hcg4_6 hfg4_6 hcg4_7 hfg4_7 hcg4_8 hfg4_8
    obtain ⟨k, o, D, rfl, rfl, HR, BKg2, BKg4, HB⟩ := hrel
    have hk8 := HR.out.k8; have o0 := HR.out.o0; have o1 := HR.out.o1
    by_cases hlt : k < 8
    · obtain ⟨y, hy⟩ : ∃ y, y = D k := ⟨_, rfl⟩
      have dy := HR.out.dig k hlt; rw [← hy] at dy; obtain ⟨y0, y1⟩ := dy
      have c2 : wr.cell? ⟨g2, 1 + k, none⟩ = some (.int .i64 y) := (blk_cell BKg2.out (1 + k)).trans ((big_get m D (by omega)).trans (by rw [hy]))
      have f2 := blk_frozen BKg2.out (1 + k)
      have HY := Lib.hid hy; clear hy
      go_wp2
      exact ⟨⟨k + 1, (2 * y + o) / 65536, upd D k ((2 * y + o) % 65536), rfl, rfl, ⟨HR.out.step hlt (by rw [HY.out])⟩, ⟨blk_put BKg2.out _ _ (big_set _ D (by omega) _)⟩, ⟨blk_far BKg4.out NBg4_g2 _⟩, ⟨below_set HB.out GEg2.out⟩⟩, by simp [intOf]; omega⟩
    · have e : k = 8 := by omega
      subst e
      have hrep := HR.out.done ha hV
      have hcg2_0 : wr.cell? ⟨g2, 0, none⟩ = some (.bool m) := (blk_cell BKg2.out 0).trans rfl; have hfg2_0 := blk_frozen BKg2.out 0
      have hcg2_1 : wr.cell? ⟨g2, 1, none⟩ = some (.int .i64 (D 0)) := (blk_cell BKg2.out 1).trans rfl; have hfg2_1 := blk_frozen BKg2.out 1
      have hcg2_2 : wr.cell? ⟨g2, 2, none⟩ = some (.int .i64 (D 1)) := (blk_cell BKg2.out 2).trans rfl; have hfg2_2 := blk_frozen BKg2.out 2
      have hcg2_3 : wr.cell? ⟨g2, 3, none⟩ = some (.int .i64 (D 2)) := (blk_cell BKg2.out 3).trans rfl; have hfg2_3 := blk_frozen BKg2.out 3
      have hcg2_4 : wr.cell? ⟨g2, 4, none⟩ = some (.int .i64 (D 3)) := (blk_cell BKg2.out 4).trans rfl; have hfg2_4 := blk_frozen BKg2.out 4
      have hcg2_5 : wr.cell? ⟨g2, 5, none⟩ = some (.int .i64 (D 4)) := (blk_cell BKg2.out 5).trans rfl; have hfg2_5 := blk_frozen BKg2.out 5
      have hcg2_6 : wr.cell? ⟨g2, 6, none⟩ = some (.int .i64 (D 5)) := (blk_cell BKg2.out 6).trans rfl; have hfg2_6 := blk_frozen BKg2.out 6
      have hcg2_7 : wr.cell? ⟨g2, 7, none⟩ = some (.int .i64 (D 6)) := (blk_cell BKg2.out 7).trans rfl; have hfg2_7 := blk_frozen BKg2.out 7
      have hcg2_8 : wr.cell? ⟨g2, 8, none⟩ = some (.int .i64 (D 7)) := (blk_cell BKg2.out 8).trans rfl; have hfg2_8 := blk_frozen BKg2.out 8
      have hcg4_0 : wr.cell? ⟨g4, 0, none⟩ = some (.bool false) := (blk_cell BKg4.out 0).trans rfl; have hfg4_0 := blk_frozen BKg4.out 0
      have hcg4_1 : wr.cell? ⟨g4, 1, none⟩ = some (.int .i64 0) := (blk_cell BKg4.out 1).trans rfl; have hfg4_1 := blk_frozen BKg4.out 1
      have hcg4_2 : wr.cell? ⟨g4, 2, none⟩ = some (.int .i64 0) := (blk_cell BKg4.out 2).trans rfl; have hfg4_2 := blk_frozen BKg4.out 2
      have hcg4_3 : wr.cell? ⟨g4, 3, none⟩ = some (.int .i64 0) := (blk_cell BKg4.out 3).trans rfl; have hfg4_3 := blk_frozen BKg4.out 3
      have hcg4_4 : wr.cell? ⟨g4, 4, none⟩ = some (.int .i64 0) := (blk_cell BKg4.out 4).trans rfl; have hfg4_4 := blk_frozen BKg4.out 4
      have hcg4_5 : wr.cell? ⟨g4, 5, none⟩ = some (.int .i64 0) := (blk_cell BKg4.out 5).trans rfl; have hfg4_5 := blk_frozen BKg4.out 5
      have hcg4_6 : wr.cell? ⟨g4, 6, none⟩ = some (.int .i64 0) := (blk_cell BKg4.out 6).trans rfl; have hfg4_6 := blk_frozen BKg4.out 6
      have hcg4_7 : wr.cell? ⟨g4, 7, none⟩ = some (.int .i64 0) := (blk_cell BKg4.out 7).trans rfl; have hfg4_7 := blk_frozen BKg4.out 7
      have hcg4_8 : wr.cell? ⟨g4, 8, none⟩ = some (.int .i64 0) := (blk_cell BKg4.out 8).trans rfl; have hfg4_8 := blk_frozen BKg4.out 8
      go_wp2
      refine bodyPost_ret (results_cell_row rfl _ _ g4 60 #[.bool m, .int .i64 (D 0), .int .i64 (D 1), .int .i64 (D 2), .int .i64 (D 3), .int .i64 (D 4), .int .i64 (D 5), .int .i64 (D 6), .int .i64 (D 7)] (0, 0) _ rfl (by (with_reducible repeat (first | refine blk_drewN ?_ _ | refine blk_drew ?_ | refine blk_alloc ?_ _)); refine blk_put (cs := #[.bool m, .int .i64 (D 0), .int .i64 (D 1), .int .i64 (D 2), .int .i64 (D 3), .int .i64 (D 4), .int .i64 (D 5), .int .i64 (D 6), .int .i64 0]) ?_ 8 _ rfl; (with_reducible repeat (first | refine blk_drewN ?_ _ | refine blk_drew ?_ | refine blk_alloc ?_ _)); refine blk_put (cs := #[.bool m, .int .i64 (D 0), .int .i64 (D 1), .int .i64 (D 2), .int .i64 (D 3), .int .i64 (D 4), .int .i64 (D 5), .int .i64 0, .int .i64 0]) ?_ 7 _ rfl; (with_reducible repeat (first | refine blk_drewN ?_ _ | refine blk_drew ?_ | refine blk_alloc ?_ _)); refine blk_put (cs := #[.bool m, .int .i64 (D 0), .int .i64 (D 1), .int .i64 (D 2), .int .i64 (D 3), .int .i64 (D 4), .int .i64 0, .int .i64 0, .int .i64 0]) ?_ 6 _ rfl; (with_reducible repeat (first | refine blk_drewN ?_ _ | refine blk_drew ?_ | refine blk_alloc ?_ _)); refine blk_put (cs := #[.bool m, .int .i64 (D 0), .int .i64 (D 1), .int .i64 (D 2), .int .i64 (D 3), .int .i64 0, .int .i64 0, .int .i64 0, .int .i64 0]) ?_ 5 _ rfl; (with_reducible repeat (first | refine blk_drewN ?_ _ | refine blk_drew ?_ | refine blk_alloc ?_ _)); refine blk_put (cs := #[.bool m, .int .i64 (D 0), .int .i64 (D 1), .int .i64 (D 2), .int .i64 0, .int .i64 0, .int .i64 0, .int .i64 0, .int .i64 0]) ?_ 4 _ rfl; (with_reducible repeat (first | refine blk_drewN ?_ _ | refine blk_drew ?_ | refine blk_alloc ?_ _)); refine blk_put (cs := #[.bool m, .int .i64 (D 0), .int .i64 (D 1), .int .i64 0, .int .i64 0, .int .i64 0, .int .i64 0, .int .i64 0, .int .i64 0]) ?_ 3 _ rfl; (with_reducible repeat (first | refine blk_drewN ?_ _ | refine blk_drew ?_ | refine blk_alloc ?_ _)); refine blk_put (cs := #[.bool m, .int .i64 (D 0), .int .i64 0, .int .i64 0, .int .i64 0, .int .i64 0, .int .i64 0, .int .i64 0, .int .i64 0]) ?_ 2 _ rfl; (with_reducible repeat (first | refine blk_drewN ?_ _ | refine blk_drew ?_ | refine blk_alloc ?_ _)); refine blk_put (cs := #[.bool m, .int .i64 0, .int .i64 0, .int .i64 0, .int .i64 0, .int .i64 0, .int .i64 0, .int .i64 0, .int .i64 0]) ?_ 1 _ rfl; (with_reducible repeat (first | refine blk_drewN ?_ _ | refine blk_drew ?_ | refine blk_alloc ?_ _)); refine blk_put (cs := #[.bool false, .int .i64 0, .int .i64 0, .int .i64 0, .int .i64 0, .int .i64 0, .int .i64 0, .int .i64 0, .int .i64 0]) ?_ 0 _ rfl; (with_reducible repeat (first | refine blk_drewN ?_ _ | refine blk_drew ?_ | refine blk_alloc ?_ _)); exact BKg4.out) Tryd.underlying60 rfl (by kernel_rfl)) rfl ?_
      exact ⟨D, rfl, hrep, by repeat (first | (with_reducible first | exact HB.out | apply below_alloc | apply pw_below_drewN | apply below_drew1 | refine below_set ?_ GEg4.out) | exact HB.out)⟩
set_option maxHeartbeats 8000000 in
set_option maxRecDepth 100000 in
theorem less_calls (ma mb : Bool) (a b : Nat → Int) (A B : Int) (w : World) (ha : Rep a A) (hb : Rep b B) (hAB : B ≤ A) :
    Calls Tryd.prog 65 #[.agg (bigA ma a), .agg (bigA mb b)] w
      fun e w' => ∃ D, e = .returned (.agg (bigA ma D)) ∧ Rep D (A - B) ∧ Below w.heap.size w w' := by
  have HB := Aside0.mk (Below.refl w.heap.size w)
  go_enter Tryd.func65, Tryd.ntmps65
  go_wp2_with (first | ((with_reducible refine gate_dst (N := 2) rfl ?_); refine box_event ?hg (N := 2) ?hd (cs := (bigA ma a)) (t := 60) ?hr ?_; (case hd => rfl); (case hg => rfl); (case hr => first | (go_simp; done) | (go_simp; rfl)); intro g2 hg_ W1 hbox_ hb_; have GEg2 := Aside0.mk ((by rw [hg_]; exact (below_size HB.out)) : w.heap.size ≤ g2); clear hg_; have n_ := Aside0.mk (below_step HB.out hb_); clear HB; have HB := n_; clear n_; have BKg2 := Aside0.mk hbox_; clear hbox_ hb_; have hcg2_0 : W1.cell? ⟨g2, 0, none⟩ = some (.bool ma) := (blk_cell BKg2.out 0).trans rfl; have hfg2_0 := blk_frozen BKg2.out 0; have hcg2_1 : W1.cell? ⟨g2, 1, none⟩ = some (.int .i64 (a 0)) := (blk_cell BKg2.out 1).trans rfl; have hfg2_1 := blk_frozen BKg2.out 1; have hcg2_2 : W1.cell? ⟨g2, 2, none⟩ = some (.int .i64 (a 1)) := (blk_cell BKg2.out 2).trans rfl; have hfg2_2 := blk_frozen BKg2.out 2; have hcg2_3 : W1.cell? ⟨g2, 3, none⟩ = some (.int .i64 (a 2)) := (blk_cell BKg2.out 3).trans rfl; have hfg2_3 := blk_frozen BKg2.out 3; have hcg2_4 : W1.cell? ⟨g2, 4, none⟩ = some (.int .i64 (a 3)) := (blk_cell BKg2.out 4).trans rfl; have hfg2_4 := blk_frozen BKg2.out 4; have hcg2_5 : W1.cell? ⟨g2, 5, none⟩ = some (.int .i64 (a 4)) := (blk_cell BKg2.out 5).trans rfl; have hfg2_5 := blk_frozen BKg2.out 5; have hcg2_6 : W1.cell? ⟨g2, 6, none⟩ = some (.int .i64 (a 5)) := (blk_cell BKg2.out 6).trans rfl; have hfg2_6 := blk_frozen BKg2.out 6; have hcg2_7 : W1.cell? ⟨g2, 7, none⟩ = some (.int .i64 (a 6)) := (blk_cell BKg2.out 7).trans rfl; have hfg2_7 := blk_frozen BKg2.out 7; have hcg2_8 : W1.cell? ⟨g2, 8, none⟩ = some (.int .i64 (a 7)) := (blk_cell BKg2.out 8).trans rfl; have hfg2_8 := blk_frozen BKg2.out 8) | ((with_reducible refine gate_dst (N := 3) rfl ?_); refine box_event ?hg (N := 3) ?hd (cs := (bigA mb b)) (t := 60) ?hr ?_; (case hd => rfl); (case hg => rfl); (case hr => first | (go_simp; done) | (go_simp; rfl)); intro g3 hg_ W2 hbox_ hb_; have GEg3 := Aside0.mk ((by rw [hg_]; exact (below_size HB.out)) : w.heap.size ≤ g3); have NBg2_g3 : g2 ≠ g3 := (by rw [hg_]; exact Nat.ne_of_lt (blk_lt BKg2.out)); have NBg3_g2 : g3 ≠ g2 := Ne.symm NBg2_g3; clear hg_; have n_ := Aside0.mk (blk_below BKg2.out hb_); clear BKg2; have BKg2 := n_; clear n_; clear hcg2_0 hfg2_0; clear hcg2_1 hfg2_1; clear hcg2_2 hfg2_2; clear hcg2_3 hfg2_3; clear hcg2_4 hfg2_4; clear hcg2_5 hfg2_5; clear hcg2_6 hfg2_6; clear hcg2_7 hfg2_7; clear hcg2_8 hfg2_8; have n_ := Aside0.mk (below_step HB.out hb_); clear HB; have HB := n_; clear n_; have BKg3 := Aside0.mk hbox_; clear hbox_ hb_; have hcg2_0 : W2.cell? ⟨g2, 0, none⟩ = some (.bool ma) := (blk_cell BKg2.out 0).trans rfl; have hfg2_0 := blk_frozen BKg2.out 0; have hcg2_1 : W2.cell? ⟨g2, 1, none⟩ = some (.int .i64 (a 0)) := (blk_cell BKg2.out 1).trans rfl; have hfg2_1 := blk_frozen BKg2.out 1; have hcg2_2 : W2.cell? ⟨g2, 2, none⟩ = some (.int .i64 (a 1)) := (blk_cell BKg2.out 2).trans rfl; have hfg2_2 := blk_frozen BKg2.out 2; have hcg2_3 : W2.cell? ⟨g2, 3, none⟩ = some (.int .i64 (a 2)) := (blk_cell BKg2.out 3).trans rfl; have hfg2_3 := blk_frozen BKg2.out 3; have hcg2_4 : W2.cell? ⟨g2, 4, none⟩ = some (.int .i64 (a 3)) := (blk_cell BKg2.out 4).trans rfl; have hfg2_4 := blk_frozen BKg2.out 4; have hcg2_5 : W2.cell? ⟨g2, 5, none⟩ = some (.int .i64 (a 4)) := (blk_cell BKg2.out 5).trans rfl; have hfg2_5 := blk_frozen BKg2.out 5; have hcg2_6 : W2.cell? ⟨g2, 6, none⟩ = some (.int .i64 (a 5)) := (blk_cell BKg2.out 6).trans rfl; have hfg2_6 := blk_frozen BKg2.out 6; have hcg2_7 : W2.cell? ⟨g2, 7, none⟩ = some (.int .i64 (a 6)) := (blk_cell BKg2.out 7).trans rfl; have hfg2_7 := blk_frozen BKg2.out 7; have hcg2_8 : W2.cell? ⟨g2, 8, none⟩ = some (.int .i64 (a 7)) := (blk_cell BKg2.out 8).trans rfl; have hfg2_8 := blk_frozen BKg2.out 8; have hcg3_0 : W2.cell? ⟨g3, 0, none⟩ = some (.bool mb) := (blk_cell BKg3.out 0).trans rfl; have hfg3_0 := blk_frozen BKg3.out 0; have hcg3_1 : W2.cell? ⟨g3, 1, none⟩ = some (.int .i64 (b 0)) := (blk_cell BKg3.out 1).trans rfl; have hfg3_1 := blk_frozen BKg3.out 1; have hcg3_2 : W2.cell? ⟨g3, 2, none⟩ = some (.int .i64 (b 1)) := (blk_cell BKg3.out 2).trans rfl; have hfg3_2 := blk_frozen BKg3.out 2; have hcg3_3 : W2.cell? ⟨g3, 3, none⟩ = some (.int .i64 (b 2)) := (blk_cell BKg3.out 3).trans rfl; have hfg3_3 := blk_frozen BKg3.out 3; have hcg3_4 : W2.cell? ⟨g3, 4, none⟩ = some (.int .i64 (b 3)) := (blk_cell BKg3.out 4).trans rfl; have hfg3_4 := blk_frozen BKg3.out 4; have hcg3_5 : W2.cell? ⟨g3, 5, none⟩ = some (.int .i64 (b 4)) := (blk_cell BKg3.out 5).trans rfl; have hfg3_5 := blk_frozen BKg3.out 5; have hcg3_6 : W2.cell? ⟨g3, 6, none⟩ = some (.int .i64 (b 5)) := (blk_cell BKg3.out 6).trans rfl; have hfg3_6 := blk_frozen BKg3.out 6; have hcg3_7 : W2.cell? ⟨g3, 7, none⟩ = some (.int .i64 (b 6)) := (blk_cell BKg3.out 7).trans rfl; have hfg3_7 := blk_frozen BKg3.out 7; have hcg3_8 : W2.cell? ⟨g3, 8, none⟩ = some (.int .i64 (b 7)) := (blk_cell BKg3.out 8).trans rfl; have hfg3_8 := blk_frozen BKg3.out 8) | ((with_reducible refine gate_dst (N := 4) rfl ?_); refine box_event ?hg (N := 4) ?hd (cs := #[.bool false, .int .i64 0, .int .i64 0, .int .i64 0, .int .i64 0, .int .i64 0, .int .i64 0, .int .i64 0, .int .i64 0]) (t := 60) ?hr ?_; (case hd => rfl); (case hg => rfl); (case hr => first | (go_simp; done) | (go_simp; rfl)); intro g4 hg_ W3 hbox_ hb_; have GEg4 := Aside0.mk ((by rw [hg_]; exact (below_size HB.out)) : w.heap.size ≤ g4); have NBg2_g4 : g2 ≠ g4 := (by rw [hg_]; exact Nat.ne_of_lt (blk_lt BKg2.out)); have NBg4_g2 : g4 ≠ g2 := Ne.symm NBg2_g4; have NBg3_g4 : g3 ≠ g4 := (by rw [hg_]; exact Nat.ne_of_lt (blk_lt BKg3.out)); have NBg4_g3 : g4 ≠ g3 := Ne.symm NBg3_g4; clear hg_; have n_ := Aside0.mk (blk_below BKg2.out hb_); clear BKg2; have BKg2 := n_; clear n_; clear hcg2_0 hfg2_0; clear hcg2_1 hfg2_1; clear hcg2_2 hfg2_2; clear hcg2_3 hfg2_3; clear hcg2_4 hfg2_4; clear hcg2_5 hfg2_5; clear hcg2_6 hfg2_6; clear hcg2_7 hfg2_7; clear hcg2_8 hfg2_8; have n_ := Aside0.mk (blk_below BKg3.out hb_); clear BKg3; have BKg3 := n_; clear n_; clear hcg3_0 hfg3_0; clear hcg3_1 hfg3_1; clear hcg3_2 hfg3_2; clear hcg3_3 hfg3_3; clear hcg3_4 hfg3_4; clear hcg3_5 hfg3_5; clear hcg3_6 hfg3_6; clear hcg3_7 hfg3_7; clear hcg3_8 hfg3_8; have n_ := Aside0.mk (below_step HB.out hb_); clear HB; have HB := n_; clear n_; have BKg4 := Aside0.mk hbox_; clear hbox_ hb_; have hcg2_0 : W3.cell? ⟨g2, 0, none⟩ = some (.bool ma) := (blk_cell BKg2.out 0).trans rfl; have hfg2_0 := blk_frozen BKg2.out 0; have hcg2_1 : W3.cell? ⟨g2, 1, none⟩ = some (.int .i64 (a 0)) := (blk_cell BKg2.out 1).trans rfl; have hfg2_1 := blk_frozen BKg2.out 1; have hcg2_2 : W3.cell? ⟨g2, 2, none⟩ = some (.int .i64 (a 1)) := (blk_cell BKg2.out 2).trans rfl; have hfg2_2 := blk_frozen BKg2.out 2; have hcg2_3 : W3.cell? ⟨g2, 3, none⟩ = some (.int .i64 (a 2)) := (blk_cell BKg2.out 3).trans rfl; have hfg2_3 := blk_frozen BKg2.out 3; have hcg2_4 : W3.cell? ⟨g2, 4, none⟩ = some (.int .i64 (a 3)) := (blk_cell BKg2.out 4).trans rfl; have hfg2_4 := blk_frozen BKg2.out 4; have hcg2_5 : W3.cell? ⟨g2, 5, none⟩ = some (.int .i64 (a 4)) := (blk_cell BKg2.out 5).trans rfl; have hfg2_5 := blk_frozen BKg2.out 5; have hcg2_6 : W3.cell? ⟨g2, 6, none⟩ = some (.int .i64 (a 5)) := (blk_cell BKg2.out 6).trans rfl; have hfg2_6 := blk_frozen BKg2.out 6; have hcg2_7 : W3.cell? ⟨g2, 7, none⟩ = some (.int .i64 (a 6)) := (blk_cell BKg2.out 7).trans rfl; have hfg2_7 := blk_frozen BKg2.out 7; have hcg2_8 : W3.cell? ⟨g2, 8, none⟩ = some (.int .i64 (a 7)) := (blk_cell BKg2.out 8).trans rfl; have hfg2_8 := blk_frozen BKg2.out 8; have hcg3_0 : W3.cell? ⟨g3, 0, none⟩ = some (.bool mb) := (blk_cell BKg3.out 0).trans rfl; have hfg3_0 := blk_frozen BKg3.out 0; have hcg3_1 : W3.cell? ⟨g3, 1, none⟩ = some (.int .i64 (b 0)) := (blk_cell BKg3.out 1).trans rfl; have hfg3_1 := blk_frozen BKg3.out 1; have hcg3_2 : W3.cell? ⟨g3, 2, none⟩ = some (.int .i64 (b 1)) := (blk_cell BKg3.out 2).trans rfl; have hfg3_2 := blk_frozen BKg3.out 2; have hcg3_3 : W3.cell? ⟨g3, 3, none⟩ = some (.int .i64 (b 2)) := (blk_cell BKg3.out 3).trans rfl; have hfg3_3 := blk_frozen BKg3.out 3; have hcg3_4 : W3.cell? ⟨g3, 4, none⟩ = some (.int .i64 (b 3)) := (blk_cell BKg3.out 4).trans rfl; have hfg3_4 := blk_frozen BKg3.out 4; have hcg3_5 : W3.cell? ⟨g3, 5, none⟩ = some (.int .i64 (b 4)) := (blk_cell BKg3.out 5).trans rfl; have hfg3_5 := blk_frozen BKg3.out 5; have hcg3_6 : W3.cell? ⟨g3, 6, none⟩ = some (.int .i64 (b 5)) := (blk_cell BKg3.out 6).trans rfl; have hfg3_6 := blk_frozen BKg3.out 6; have hcg3_7 : W3.cell? ⟨g3, 7, none⟩ = some (.int .i64 (b 6)) := (blk_cell BKg3.out 7).trans rfl; have hfg3_7 := blk_frozen BKg3.out 7; have hcg3_8 : W3.cell? ⟨g3, 8, none⟩ = some (.int .i64 (b 7)) := (blk_cell BKg3.out 8).trans rfl; have hfg3_8 := blk_frozen BKg3.out 8; have hcg4_0 : W3.cell? ⟨g4, 0, none⟩ = some (.bool false) := (blk_cell BKg4.out 0).trans rfl; have hfg4_0 := blk_frozen BKg4.out 0; have hcg4_1 : W3.cell? ⟨g4, 1, none⟩ = some (.int .i64 0) := (blk_cell BKg4.out 1).trans rfl; have hfg4_1 := blk_frozen BKg4.out 1; have hcg4_2 : W3.cell? ⟨g4, 2, none⟩ = some (.int .i64 0) := (blk_cell BKg4.out 2).trans rfl; have hfg4_2 := blk_frozen BKg4.out 2; have hcg4_3 : W3.cell? ⟨g4, 3, none⟩ = some (.int .i64 0) := (blk_cell BKg4.out 3).trans rfl; have hfg4_3 := blk_frozen BKg4.out 3; have hcg4_4 : W3.cell? ⟨g4, 4, none⟩ = some (.int .i64 0) := (blk_cell BKg4.out 4).trans rfl; have hfg4_4 := blk_frozen BKg4.out 4; have hcg4_5 : W3.cell? ⟨g4, 5, none⟩ = some (.int .i64 0) := (blk_cell BKg4.out 5).trans rfl; have hfg4_5 := blk_frozen BKg4.out 5; have hcg4_6 : W3.cell? ⟨g4, 6, none⟩ = some (.int .i64 0) := (blk_cell BKg4.out 6).trans rfl; have hfg4_6 := blk_frozen BKg4.out 6; have hcg4_7 : W3.cell? ⟨g4, 7, none⟩ = some (.int .i64 0) := (blk_cell BKg4.out 7).trans rfl; have hfg4_7 := blk_frozen BKg4.out 7; have hcg4_8 : W3.cell? ⟨g4, 8, none⟩ = some (.int .i64 0) := (blk_cell BKg4.out 8).trans rfl; have hfg4_8 := blk_frozen BKg4.out 8))
  go_loopw [5, 6] (fun vo vi wr => ∃ (k : Nat) (o : Int) (D : Nat → Int), vo = .int .i64 o ∧ vi = .int .i64 k ∧ Aside0 (LsR a b k o D) ∧ Aside0 (wr.heap[g2]? = some (.cells (bigA ma D) 60 (0, 0))) ∧ Aside0 (wr.heap[g3]? = some (.cells (bigA mb b) 60 (0, 0))) ∧ Aside0 (wr.heap[g4]? = some (.cells #[.bool false, .int .i64 0, .int .i64 0, .int .i64 0, .int .i64 0, .int .i64 0, .int .i64 0, .int .i64 0, .int .i64 0] 60 (0, 0))) ∧ Aside0 (Below w.heap.size w wr)) (fun _ vi _ => 8 - (intOf vi).toNat)
  case atStart => exact ⟨0, 0, a, rfl, rfl, ⟨LsR.start ha.dig⟩, BKg2, BKg3, BKg4, HB⟩
  case round =>
    clear BKg2 BKg3 BKg4 HB hcg2_0 hfg2_0 hcg2_1 hfg2_1 hcg2_2 hfg2_2 hcg2_3 hfg2_3 hcg2_4 hfg2_4 hcg2_5 hfg2_5 hcg2_6 hfg2_6 hcg2_7 hfg2_7 hcg2_8 hfg2_8 hcg3_0 hfg3_0 hcg3_1 hfg3_1 hcg3_2 hfg3_2 hcg3_3 hfg3_3 hcg3_4 hfg3_4 hcg3_5 hfg3_5 hcg3_6 hfg3_6 hcg3_7 hfg3_7 hcg3_8 hfg3_8 hcg4_0 hfg4_0 hcg4_1 hfg4_1 hcg4_2 hfg4_2 hcg4_3 hfg4_3 hcg4_4 hfg4_4 hcg4_5 hfg4_5 hcg4_6 hfg4_6 hcg4_7 hfg4_7 hcg4_8 hfg4_8
    obtain ⟨k, o, D, rfl, rfl, HR, BKg2, BKg3, BKg4, HB⟩ := hrel
    have hk8 := HR.out.k8; have o0 := HR.out.o0; have o1 := HR.out.o1
    by_cases hlt : k < 8
    · obtain ⟨y, hy⟩ : ∃ y, y = D k := ⟨_, rfl⟩
      obtain ⟨z, hz⟩ : ∃ z, z = b k := ⟨_, rfl⟩
      have dy := HR.out.dig k hlt; rw [← hy] at dy; obtain ⟨y0, y1⟩ := dy
      have dz := hb.dig k hlt; rw [← hz] at dz; obtain ⟨z0, z1⟩ := dz
      have c2 : wr.cell? ⟨g2, 1 + k, none⟩ = some (.int .i64 y) := (blk_cell BKg2.out (1 + k)).trans ((big_get ma D (by omega)).trans (by rw [hy]))
      have f2 := blk_frozen BKg2.out (1 + k)
      have c3 : wr.cell? ⟨g3, 1 + k, none⟩ = some (.int .i64 z) := (blk_cell BKg3.out (1 + k)).trans ((big_get mb b (by omega)).trans (by rw [hz]))
      have HY := Lib.hid hy; clear hy; have HZ := Lib.hid hz; clear hz
      by_cases hs : y - z - o < 0
      · go_wp2
        go_quiet (fail)
        go_wp2
        exact ⟨⟨k + 1, 1, upd D k (y - z - o + 65536), rfl, rfl, ⟨HR.out.borrow hb.dig hlt (by rw [HY.out, HZ.out]) hs⟩, ⟨blk_put (blk_drewN BKg2.out _) _ _ (big_set _ D (by omega) _)⟩, ⟨blk_far (blk_drewN BKg3.out _) NBg3_g2 _⟩, ⟨blk_far (blk_drewN BKg4.out _) NBg4_g2 _⟩, ⟨below_set (pw_below_drewN HB.out _) GEg2.out⟩⟩, by simp [intOf]; omega⟩
      · have hs1 : decide (y - z - o < 0) = false := decide_eq_false hs
        have hs2 : 0 ≤ y - z - o := by omega
        go_wp2
        go_quiet (fail)
        go_wp2
        exact ⟨⟨k + 1, 0, upd D k (y - z - o), rfl, rfl, ⟨HR.out.stay hb.dig hlt (by rw [HY.out, HZ.out]) hs2⟩, ⟨blk_put (blk_drewN BKg2.out _) _ _ (big_set _ D (by omega) _)⟩, ⟨blk_far (blk_drewN BKg3.out _) NBg3_g2 _⟩, ⟨blk_far (blk_drewN BKg4.out _) NBg4_g2 _⟩, ⟨below_set (pw_below_drewN HB.out _) GEg2.out⟩⟩, by simp [intOf]; omega⟩
    · have e : k = 8 := by omega
      subst e
      have hrep := HR.out.done ha hb hAB
      have hcg2_0 : wr.cell? ⟨g2, 0, none⟩ = some (.bool ma) := (blk_cell BKg2.out 0).trans rfl; have hfg2_0 := blk_frozen BKg2.out 0
      have hcg2_1 : wr.cell? ⟨g2, 1, none⟩ = some (.int .i64 (D 0)) := (blk_cell BKg2.out 1).trans rfl; have hfg2_1 := blk_frozen BKg2.out 1
      have hcg2_2 : wr.cell? ⟨g2, 2, none⟩ = some (.int .i64 (D 1)) := (blk_cell BKg2.out 2).trans rfl; have hfg2_2 := blk_frozen BKg2.out 2
      have hcg2_3 : wr.cell? ⟨g2, 3, none⟩ = some (.int .i64 (D 2)) := (blk_cell BKg2.out 3).trans rfl; have hfg2_3 := blk_frozen BKg2.out 3
      have hcg2_4 : wr.cell? ⟨g2, 4, none⟩ = some (.int .i64 (D 3)) := (blk_cell BKg2.out 4).trans rfl; have hfg2_4 := blk_frozen BKg2.out 4
      have hcg2_5 : wr.cell? ⟨g2, 5, none⟩ = some (.int .i64 (D 4)) := (blk_cell BKg2.out 5).trans rfl; have hfg2_5 := blk_frozen BKg2.out 5
      have hcg2_6 : wr.cell? ⟨g2, 6, none⟩ = some (.int .i64 (D 5)) := (blk_cell BKg2.out 6).trans rfl; have hfg2_6 := blk_frozen BKg2.out 6
      have hcg2_7 : wr.cell? ⟨g2, 7, none⟩ = some (.int .i64 (D 6)) := (blk_cell BKg2.out 7).trans rfl; have hfg2_7 := blk_frozen BKg2.out 7
      have hcg2_8 : wr.cell? ⟨g2, 8, none⟩ = some (.int .i64 (D 7)) := (blk_cell BKg2.out 8).trans rfl; have hfg2_8 := blk_frozen BKg2.out 8
      have hcg4_0 : wr.cell? ⟨g4, 0, none⟩ = some (.bool false) := (blk_cell BKg4.out 0).trans rfl; have hfg4_0 := blk_frozen BKg4.out 0
      have hcg4_1 : wr.cell? ⟨g4, 1, none⟩ = some (.int .i64 0) := (blk_cell BKg4.out 1).trans rfl; have hfg4_1 := blk_frozen BKg4.out 1
      have hcg4_2 : wr.cell? ⟨g4, 2, none⟩ = some (.int .i64 0) := (blk_cell BKg4.out 2).trans rfl; have hfg4_2 := blk_frozen BKg4.out 2
      have hcg4_3 : wr.cell? ⟨g4, 3, none⟩ = some (.int .i64 0) := (blk_cell BKg4.out 3).trans rfl; have hfg4_3 := blk_frozen BKg4.out 3
      have hcg4_4 : wr.cell? ⟨g4, 4, none⟩ = some (.int .i64 0) := (blk_cell BKg4.out 4).trans rfl; have hfg4_4 := blk_frozen BKg4.out 4
      have hcg4_5 : wr.cell? ⟨g4, 5, none⟩ = some (.int .i64 0) := (blk_cell BKg4.out 5).trans rfl; have hfg4_5 := blk_frozen BKg4.out 5
      have hcg4_6 : wr.cell? ⟨g4, 6, none⟩ = some (.int .i64 0) := (blk_cell BKg4.out 6).trans rfl; have hfg4_6 := blk_frozen BKg4.out 6
      have hcg4_7 : wr.cell? ⟨g4, 7, none⟩ = some (.int .i64 0) := (blk_cell BKg4.out 7).trans rfl; have hfg4_7 := blk_frozen BKg4.out 7
      have hcg4_8 : wr.cell? ⟨g4, 8, none⟩ = some (.int .i64 0) := (blk_cell BKg4.out 8).trans rfl; have hfg4_8 := blk_frozen BKg4.out 8
      go_wp2
      refine bodyPost_ret (results_cell_row rfl _ _ g4 60 #[.bool ma, .int .i64 (D 0), .int .i64 (D 1), .int .i64 (D 2), .int .i64 (D 3), .int .i64 (D 4), .int .i64 (D 5), .int .i64 (D 6), .int .i64 (D 7)] (0, 0) _ rfl (by (with_reducible repeat (first | refine blk_drewN ?_ _ | refine blk_drew ?_ | refine blk_alloc ?_ _)); refine blk_put (cs := #[.bool ma, .int .i64 (D 0), .int .i64 (D 1), .int .i64 (D 2), .int .i64 (D 3), .int .i64 (D 4), .int .i64 (D 5), .int .i64 (D 6), .int .i64 0]) ?_ 8 _ rfl; (with_reducible repeat (first | refine blk_drewN ?_ _ | refine blk_drew ?_ | refine blk_alloc ?_ _)); refine blk_put (cs := #[.bool ma, .int .i64 (D 0), .int .i64 (D 1), .int .i64 (D 2), .int .i64 (D 3), .int .i64 (D 4), .int .i64 (D 5), .int .i64 0, .int .i64 0]) ?_ 7 _ rfl; (with_reducible repeat (first | refine blk_drewN ?_ _ | refine blk_drew ?_ | refine blk_alloc ?_ _)); refine blk_put (cs := #[.bool ma, .int .i64 (D 0), .int .i64 (D 1), .int .i64 (D 2), .int .i64 (D 3), .int .i64 (D 4), .int .i64 0, .int .i64 0, .int .i64 0]) ?_ 6 _ rfl; (with_reducible repeat (first | refine blk_drewN ?_ _ | refine blk_drew ?_ | refine blk_alloc ?_ _)); refine blk_put (cs := #[.bool ma, .int .i64 (D 0), .int .i64 (D 1), .int .i64 (D 2), .int .i64 (D 3), .int .i64 0, .int .i64 0, .int .i64 0, .int .i64 0]) ?_ 5 _ rfl; (with_reducible repeat (first | refine blk_drewN ?_ _ | refine blk_drew ?_ | refine blk_alloc ?_ _)); refine blk_put (cs := #[.bool ma, .int .i64 (D 0), .int .i64 (D 1), .int .i64 (D 2), .int .i64 0, .int .i64 0, .int .i64 0, .int .i64 0, .int .i64 0]) ?_ 4 _ rfl; (with_reducible repeat (first | refine blk_drewN ?_ _ | refine blk_drew ?_ | refine blk_alloc ?_ _)); refine blk_put (cs := #[.bool ma, .int .i64 (D 0), .int .i64 (D 1), .int .i64 0, .int .i64 0, .int .i64 0, .int .i64 0, .int .i64 0, .int .i64 0]) ?_ 3 _ rfl; (with_reducible repeat (first | refine blk_drewN ?_ _ | refine blk_drew ?_ | refine blk_alloc ?_ _)); refine blk_put (cs := #[.bool ma, .int .i64 (D 0), .int .i64 0, .int .i64 0, .int .i64 0, .int .i64 0, .int .i64 0, .int .i64 0, .int .i64 0]) ?_ 2 _ rfl; (with_reducible repeat (first | refine blk_drewN ?_ _ | refine blk_drew ?_ | refine blk_alloc ?_ _)); refine blk_put (cs := #[.bool ma, .int .i64 0, .int .i64 0, .int .i64 0, .int .i64 0, .int .i64 0, .int .i64 0, .int .i64 0, .int .i64 0]) ?_ 1 _ rfl; (with_reducible repeat (first | refine blk_drewN ?_ _ | refine blk_drew ?_ | refine blk_alloc ?_ _)); refine blk_put (cs := #[.bool false, .int .i64 0, .int .i64 0, .int .i64 0, .int .i64 0, .int .i64 0, .int .i64 0, .int .i64 0, .int .i64 0]) ?_ 0 _ rfl; (with_reducible repeat (first | refine blk_drewN ?_ _ | refine blk_drew ?_ | refine blk_alloc ?_ _)); exact BKg4.out) Tryd.underlying60 rfl (by kernel_rfl)) rfl ?_
      exact ⟨D, rfl, hrep, by repeat (first | (with_reducible first | exact HB.out | apply below_alloc | apply pw_below_drewN | apply below_drew1 | refine below_set ?_ GEg4.out) | exact HB.out)⟩
end Go.Proofs.YtcnibfancjofhaaDoor

/- The reference's great numbers: Over. -/
namespace Go.Proofs.YtcnibfancjofhaaDoor
open Go.RowKit Go.Proofs.YtcnibfancjofhaaDoorW.PrintWords Go.Proofs.YtcnibfancjofhaaDoorW.PrintLast Go.Proofs.YtcnibfancjofhaaDoorW.PrintMore
set_option linter.unusedVariables false
set_option linter.unusedSimpArgs false
theorem double_ex (m : Bool) (V x X : Int) (w : World) (hV : Rep (cdig V) V) (h0 : 0 ≤ x) (h1 : x ≤ 1) (h2 : 2 * V + x < 340282366920938463463374607431768211456) (hX : X = 2 * V + x) :
    Calls Tryd.prog 64 #[.agg #[.bool m, .int .i64 (cdig V 0), .int .i64 (cdig V 1), .int .i64 (cdig V 2), .int .i64 (cdig V 3), .int .i64 (cdig V 4), .int .i64 (cdig V 5), .int .i64 (cdig V 6), .int .i64 (cdig V 7)], .int .i64 x] w fun e w' => e = .returned (.agg #[.bool m, .int .i64 (cdig X 0), .int .i64 (cdig X 1), .int .i64 (cdig X 2), .int .i64 (cdig X 3), .int .i64 (cdig X 4), .int .i64 (cdig X 5), .int .i64 (cdig X 6), .int .i64 (cdig X 7)]) ∧ Below w.heap.size w w' := by
  subst hX
  exact (double_calls m (cdig V) x V w hV h0 h1 h2).mono fun _ _ ⟨D, he, hr, hb⟩ => ⟨he.trans (ret_big (hr.cells _)), hb⟩
theorem less_ex (ma mb : Bool) (A B X : Int) (w : World) (hA : Rep (cdig A) A) (hB : Rep (cdig B) B) (hAB : B ≤ A) (hX : X = A - B) :
    Calls Tryd.prog 65 #[.agg #[.bool ma, .int .i64 (cdig A 0), .int .i64 (cdig A 1), .int .i64 (cdig A 2), .int .i64 (cdig A 3), .int .i64 (cdig A 4), .int .i64 (cdig A 5), .int .i64 (cdig A 6), .int .i64 (cdig A 7)], .agg #[.bool mb, .int .i64 (cdig B 0), .int .i64 (cdig B 1), .int .i64 (cdig B 2), .int .i64 (cdig B 3), .int .i64 (cdig B 4), .int .i64 (cdig B 5), .int .i64 (cdig B 6), .int .i64 (cdig B 7)]] w fun e w' => e = .returned (.agg #[.bool ma, .int .i64 (cdig X 0), .int .i64 (cdig X 1), .int .i64 (cdig X 2), .int .i64 (cdig X 3), .int .i64 (cdig X 4), .int .i64 (cdig X 5), .int .i64 (cdig X 6), .int .i64 (cdig X 7)]) ∧ Below w.heap.size w w' := by
  subst hX
  exact (less_calls ma mb (cdig A) (cdig B) A B w hA hB hAB).mono fun _ _ ⟨D, he, hr, hb⟩ => ⟨he.trans (ret_big (hr.cells _)), hb⟩
theorem shiftu_ex (m : Bool) (V : Int) (w : World) (hV : Rep (cdig V) V) (h : V < 79228162514264337593543950336) :
    Calls Tryd.prog 48 #[.agg #[.bool m, .int .i64 (cdig V 0), .int .i64 (cdig V 1), .int .i64 (cdig V 2), .int .i64 (cdig V 3), .int .i64 (cdig V 4), .int .i64 (cdig V 5), .int .i64 (cdig V 6), .int .i64 (cdig V 7)], .int .i64 2] w fun e w' => e = .returned (.agg #[.bool m, .int .i64 (cdig (V * 4294967296) 0), .int .i64 (cdig (V * 4294967296) 1), .int .i64 (cdig (V * 4294967296) 2), .int .i64 (cdig (V * 4294967296) 3), .int .i64 (cdig (V * 4294967296) 4), .int .i64 (cdig (V * 4294967296) 5), .int .i64 (cdig (V * 4294967296) 6), .int .i64 (cdig (V * 4294967296) 7)]) ∧ Below w.heap.size w w' :=
  (shift_p2 m (cdig V) V w hV h).mono fun _ _ ⟨D, he, hr, hb⟩ => ⟨he.trans (ret_big (hr.cells _)), hb⟩
theorem and_i64 (a b : Int) : bits .and .i64 a b = IntKind.i64.wrap (((a % 18446744073709551616).toNat &&& (b % 18446744073709551616).toNat : Nat) : Int) := by
  show IntKind.i64.wrap ((BitVec.ofInt 64 a &&& BitVec.ofInt 64 b).toNat : Int) = _
  rw [BitVec.toNat_and, BitVec.toNat_ofInt, BitVec.toNat_ofInt]; rfl
theorem and_one (n : Int) : Go.bits .and .i64 n 1 = n % 2 := by
  rw [and_i64, show ((1 : Int) % 18446744073709551616).toNat = 1 from rfl, Nat.and_one_is_mod, wrap_i64]
  omega
set_option maxHeartbeats 8000000 in
set_option maxRecDepth 100000 in
theorem over_calls (ma mb : Bool) (A B : Int) (w : World) (ha : Rep (cdig A) A) (hb : Rep (cdig B) B) (hB : 0 < B) (hB2 : B < 18446744073709551616) :
    Calls Tryd.prog 47 #[.agg (bigA ma (cdig A)), .agg (bigA mb (cdig B))] w
      fun e w' => e = .returned (.agg (bigA (!(ma == mb)) (cdig (A / B)))) ∧ Below w.heap.size w w' := by
  have HB := Aside0.mk (Below.refl w.heap.size w)
  go_enter Tryd.func47, Tryd.ntmps47
  go_upto_region 2 with (first | ((with_reducible refine gate_dst (N := 2) rfl ?_); refine box_event ?hg (N := 2) ?hd (cs := (bigA ma (cdig A))) (t := 60) ?hr ?_; (case hd => rfl); (case hg => rfl); (case hr => first | (go_simp; done) | (go_simp; rfl)); intro g2 hg_ W1 hbox_ hb_; have GEg2 := Aside0.mk ((by rw [hg_]; exact (below_size HB.out)) : w.heap.size ≤ g2); clear hg_; have n_ := Aside0.mk (below_step HB.out hb_); clear HB; have HB := n_; clear n_; have BKg2 := Aside0.mk hbox_; clear hbox_ hb_; have hcg2_0 : W1.cell? ⟨g2, 0, none⟩ = some (.bool ma) := (blk_cell BKg2.out 0).trans rfl; have hfg2_0 := blk_frozen BKg2.out 0; have hcg2_1 : W1.cell? ⟨g2, 1, none⟩ = some (.int .i64 ((cdig A) 0)) := (blk_cell BKg2.out 1).trans rfl; have hfg2_1 := blk_frozen BKg2.out 1; have hcg2_2 : W1.cell? ⟨g2, 2, none⟩ = some (.int .i64 ((cdig A) 1)) := (blk_cell BKg2.out 2).trans rfl; have hfg2_2 := blk_frozen BKg2.out 2; have hcg2_3 : W1.cell? ⟨g2, 3, none⟩ = some (.int .i64 ((cdig A) 2)) := (blk_cell BKg2.out 3).trans rfl; have hfg2_3 := blk_frozen BKg2.out 3; have hcg2_4 : W1.cell? ⟨g2, 4, none⟩ = some (.int .i64 ((cdig A) 3)) := (blk_cell BKg2.out 4).trans rfl; have hfg2_4 := blk_frozen BKg2.out 4; have hcg2_5 : W1.cell? ⟨g2, 5, none⟩ = some (.int .i64 ((cdig A) 4)) := (blk_cell BKg2.out 5).trans rfl; have hfg2_5 := blk_frozen BKg2.out 5; have hcg2_6 : W1.cell? ⟨g2, 6, none⟩ = some (.int .i64 ((cdig A) 5)) := (blk_cell BKg2.out 6).trans rfl; have hfg2_6 := blk_frozen BKg2.out 6; have hcg2_7 : W1.cell? ⟨g2, 7, none⟩ = some (.int .i64 ((cdig A) 6)) := (blk_cell BKg2.out 7).trans rfl; have hfg2_7 := blk_frozen BKg2.out 7; have hcg2_8 : W1.cell? ⟨g2, 8, none⟩ = some (.int .i64 ((cdig A) 7)) := (blk_cell BKg2.out 8).trans rfl; have hfg2_8 := blk_frozen BKg2.out 8) | ((with_reducible refine gate_dst (N := 3) rfl ?_); refine box_event ?hg (N := 3) ?hd (cs := (bigA mb (cdig B))) (t := 60) ?hr ?_; (case hd => rfl); (case hg => rfl); (case hr => first | (go_simp; done) | (go_simp; rfl)); intro g3 hg_ W2 hbox_ hb_; have GEg3 := Aside0.mk ((by rw [hg_]; exact (below_size HB.out)) : w.heap.size ≤ g3); have NBg2_g3 : g2 ≠ g3 := (by rw [hg_]; exact Nat.ne_of_lt (blk_lt BKg2.out)); have NBg3_g2 : g3 ≠ g2 := Ne.symm NBg2_g3; clear hg_; have n_ := Aside0.mk (blk_below BKg2.out hb_); clear BKg2; have BKg2 := n_; clear n_; clear hcg2_0 hfg2_0; clear hcg2_1 hfg2_1; clear hcg2_2 hfg2_2; clear hcg2_3 hfg2_3; clear hcg2_4 hfg2_4; clear hcg2_5 hfg2_5; clear hcg2_6 hfg2_6; clear hcg2_7 hfg2_7; clear hcg2_8 hfg2_8; have n_ := Aside0.mk (below_step HB.out hb_); clear HB; have HB := n_; clear n_; have BKg3 := Aside0.mk hbox_; clear hbox_ hb_; have hcg2_0 : W2.cell? ⟨g2, 0, none⟩ = some (.bool ma) := (blk_cell BKg2.out 0).trans rfl; have hfg2_0 := blk_frozen BKg2.out 0; have hcg2_1 : W2.cell? ⟨g2, 1, none⟩ = some (.int .i64 ((cdig A) 0)) := (blk_cell BKg2.out 1).trans rfl; have hfg2_1 := blk_frozen BKg2.out 1; have hcg2_2 : W2.cell? ⟨g2, 2, none⟩ = some (.int .i64 ((cdig A) 1)) := (blk_cell BKg2.out 2).trans rfl; have hfg2_2 := blk_frozen BKg2.out 2; have hcg2_3 : W2.cell? ⟨g2, 3, none⟩ = some (.int .i64 ((cdig A) 2)) := (blk_cell BKg2.out 3).trans rfl; have hfg2_3 := blk_frozen BKg2.out 3; have hcg2_4 : W2.cell? ⟨g2, 4, none⟩ = some (.int .i64 ((cdig A) 3)) := (blk_cell BKg2.out 4).trans rfl; have hfg2_4 := blk_frozen BKg2.out 4; have hcg2_5 : W2.cell? ⟨g2, 5, none⟩ = some (.int .i64 ((cdig A) 4)) := (blk_cell BKg2.out 5).trans rfl; have hfg2_5 := blk_frozen BKg2.out 5; have hcg2_6 : W2.cell? ⟨g2, 6, none⟩ = some (.int .i64 ((cdig A) 5)) := (blk_cell BKg2.out 6).trans rfl; have hfg2_6 := blk_frozen BKg2.out 6; have hcg2_7 : W2.cell? ⟨g2, 7, none⟩ = some (.int .i64 ((cdig A) 6)) := (blk_cell BKg2.out 7).trans rfl; have hfg2_7 := blk_frozen BKg2.out 7; have hcg2_8 : W2.cell? ⟨g2, 8, none⟩ = some (.int .i64 ((cdig A) 7)) := (blk_cell BKg2.out 8).trans rfl; have hfg2_8 := blk_frozen BKg2.out 8; have hcg3_0 : W2.cell? ⟨g3, 0, none⟩ = some (.bool mb) := (blk_cell BKg3.out 0).trans rfl; have hfg3_0 := blk_frozen BKg3.out 0; have hcg3_1 : W2.cell? ⟨g3, 1, none⟩ = some (.int .i64 ((cdig B) 0)) := (blk_cell BKg3.out 1).trans rfl; have hfg3_1 := blk_frozen BKg3.out 1; have hcg3_2 : W2.cell? ⟨g3, 2, none⟩ = some (.int .i64 ((cdig B) 1)) := (blk_cell BKg3.out 2).trans rfl; have hfg3_2 := blk_frozen BKg3.out 2; have hcg3_3 : W2.cell? ⟨g3, 3, none⟩ = some (.int .i64 ((cdig B) 2)) := (blk_cell BKg3.out 3).trans rfl; have hfg3_3 := blk_frozen BKg3.out 3; have hcg3_4 : W2.cell? ⟨g3, 4, none⟩ = some (.int .i64 ((cdig B) 3)) := (blk_cell BKg3.out 4).trans rfl; have hfg3_4 := blk_frozen BKg3.out 4; have hcg3_5 : W2.cell? ⟨g3, 5, none⟩ = some (.int .i64 ((cdig B) 4)) := (blk_cell BKg3.out 5).trans rfl; have hfg3_5 := blk_frozen BKg3.out 5; have hcg3_6 : W2.cell? ⟨g3, 6, none⟩ = some (.int .i64 ((cdig B) 5)) := (blk_cell BKg3.out 6).trans rfl; have hfg3_6 := blk_frozen BKg3.out 6; have hcg3_7 : W2.cell? ⟨g3, 7, none⟩ = some (.int .i64 ((cdig B) 6)) := (blk_cell BKg3.out 7).trans rfl; have hfg3_7 := blk_frozen BKg3.out 7; have hcg3_8 : W2.cell? ⟨g3, 8, none⟩ = some (.int .i64 ((cdig B) 7)) := (blk_cell BKg3.out 8).trans rfl; have hfg3_8 := blk_frozen BKg3.out 8) | ((with_reducible refine gate_dst (N := 4) rfl ?_); refine box_event ?hg (N := 4) ?hd (cs := #[.bool false, .int .i64 0, .int .i64 0, .int .i64 0, .int .i64 0, .int .i64 0, .int .i64 0, .int .i64 0, .int .i64 0]) (t := 60) ?hr ?_; (case hd => rfl); (case hg => rfl); (case hr => first | (go_simp; done) | (go_simp; rfl)); intro g4 hg_ W3 hbox_ hb_; have GEg4 := Aside0.mk ((by rw [hg_]; exact (below_size HB.out)) : w.heap.size ≤ g4); have NBg2_g4 : g2 ≠ g4 := (by rw [hg_]; exact Nat.ne_of_lt (blk_lt BKg2.out)); have NBg4_g2 : g4 ≠ g2 := Ne.symm NBg2_g4; have NBg3_g4 : g3 ≠ g4 := (by rw [hg_]; exact Nat.ne_of_lt (blk_lt BKg3.out)); have NBg4_g3 : g4 ≠ g3 := Ne.symm NBg3_g4; clear hg_; have n_ := Aside0.mk (blk_below BKg2.out hb_); clear BKg2; have BKg2 := n_; clear n_; clear hcg2_0 hfg2_0; clear hcg2_1 hfg2_1; clear hcg2_2 hfg2_2; clear hcg2_3 hfg2_3; clear hcg2_4 hfg2_4; clear hcg2_5 hfg2_5; clear hcg2_6 hfg2_6; clear hcg2_7 hfg2_7; clear hcg2_8 hfg2_8; have n_ := Aside0.mk (blk_below BKg3.out hb_); clear BKg3; have BKg3 := n_; clear n_; clear hcg3_0 hfg3_0; clear hcg3_1 hfg3_1; clear hcg3_2 hfg3_2; clear hcg3_3 hfg3_3; clear hcg3_4 hfg3_4; clear hcg3_5 hfg3_5; clear hcg3_6 hfg3_6; clear hcg3_7 hfg3_7; clear hcg3_8 hfg3_8; have n_ := Aside0.mk (below_step HB.out hb_); clear HB; have HB := n_; clear n_; have BKg4 := Aside0.mk hbox_; clear hbox_ hb_; have hcg2_0 : W3.cell? ⟨g2, 0, none⟩ = some (.bool ma) := (blk_cell BKg2.out 0).trans rfl; have hfg2_0 := blk_frozen BKg2.out 0; have hcg2_1 : W3.cell? ⟨g2, 1, none⟩ = some (.int .i64 ((cdig A) 0)) := (blk_cell BKg2.out 1).trans rfl; have hfg2_1 := blk_frozen BKg2.out 1; have hcg2_2 : W3.cell? ⟨g2, 2, none⟩ = some (.int .i64 ((cdig A) 1)) := (blk_cell BKg2.out 2).trans rfl; have hfg2_2 := blk_frozen BKg2.out 2; have hcg2_3 : W3.cell? ⟨g2, 3, none⟩ = some (.int .i64 ((cdig A) 2)) := (blk_cell BKg2.out 3).trans rfl; have hfg2_3 := blk_frozen BKg2.out 3; have hcg2_4 : W3.cell? ⟨g2, 4, none⟩ = some (.int .i64 ((cdig A) 3)) := (blk_cell BKg2.out 4).trans rfl; have hfg2_4 := blk_frozen BKg2.out 4; have hcg2_5 : W3.cell? ⟨g2, 5, none⟩ = some (.int .i64 ((cdig A) 4)) := (blk_cell BKg2.out 5).trans rfl; have hfg2_5 := blk_frozen BKg2.out 5; have hcg2_6 : W3.cell? ⟨g2, 6, none⟩ = some (.int .i64 ((cdig A) 5)) := (blk_cell BKg2.out 6).trans rfl; have hfg2_6 := blk_frozen BKg2.out 6; have hcg2_7 : W3.cell? ⟨g2, 7, none⟩ = some (.int .i64 ((cdig A) 6)) := (blk_cell BKg2.out 7).trans rfl; have hfg2_7 := blk_frozen BKg2.out 7; have hcg2_8 : W3.cell? ⟨g2, 8, none⟩ = some (.int .i64 ((cdig A) 7)) := (blk_cell BKg2.out 8).trans rfl; have hfg2_8 := blk_frozen BKg2.out 8; have hcg3_0 : W3.cell? ⟨g3, 0, none⟩ = some (.bool mb) := (blk_cell BKg3.out 0).trans rfl; have hfg3_0 := blk_frozen BKg3.out 0; have hcg3_1 : W3.cell? ⟨g3, 1, none⟩ = some (.int .i64 ((cdig B) 0)) := (blk_cell BKg3.out 1).trans rfl; have hfg3_1 := blk_frozen BKg3.out 1; have hcg3_2 : W3.cell? ⟨g3, 2, none⟩ = some (.int .i64 ((cdig B) 1)) := (blk_cell BKg3.out 2).trans rfl; have hfg3_2 := blk_frozen BKg3.out 2; have hcg3_3 : W3.cell? ⟨g3, 3, none⟩ = some (.int .i64 ((cdig B) 2)) := (blk_cell BKg3.out 3).trans rfl; have hfg3_3 := blk_frozen BKg3.out 3; have hcg3_4 : W3.cell? ⟨g3, 4, none⟩ = some (.int .i64 ((cdig B) 3)) := (blk_cell BKg3.out 4).trans rfl; have hfg3_4 := blk_frozen BKg3.out 4; have hcg3_5 : W3.cell? ⟨g3, 5, none⟩ = some (.int .i64 ((cdig B) 4)) := (blk_cell BKg3.out 5).trans rfl; have hfg3_5 := blk_frozen BKg3.out 5; have hcg3_6 : W3.cell? ⟨g3, 6, none⟩ = some (.int .i64 ((cdig B) 5)) := (blk_cell BKg3.out 6).trans rfl; have hfg3_6 := blk_frozen BKg3.out 6; have hcg3_7 : W3.cell? ⟨g3, 7, none⟩ = some (.int .i64 ((cdig B) 6)) := (blk_cell BKg3.out 7).trans rfl; have hfg3_7 := blk_frozen BKg3.out 7; have hcg3_8 : W3.cell? ⟨g3, 8, none⟩ = some (.int .i64 ((cdig B) 7)) := (blk_cell BKg3.out 8).trans rfl; have hfg3_8 := blk_frozen BKg3.out 8; have hcg4_0 : W3.cell? ⟨g4, 0, none⟩ = some (.bool false) := (blk_cell BKg4.out 0).trans rfl; have hfg4_0 := blk_frozen BKg4.out 0; have hcg4_1 : W3.cell? ⟨g4, 1, none⟩ = some (.int .i64 0) := (blk_cell BKg4.out 1).trans rfl; have hfg4_1 := blk_frozen BKg4.out 1; have hcg4_2 : W3.cell? ⟨g4, 2, none⟩ = some (.int .i64 0) := (blk_cell BKg4.out 2).trans rfl; have hfg4_2 := blk_frozen BKg4.out 2; have hcg4_3 : W3.cell? ⟨g4, 3, none⟩ = some (.int .i64 0) := (blk_cell BKg4.out 3).trans rfl; have hfg4_3 := blk_frozen BKg4.out 3; have hcg4_4 : W3.cell? ⟨g4, 4, none⟩ = some (.int .i64 0) := (blk_cell BKg4.out 4).trans rfl; have hfg4_4 := blk_frozen BKg4.out 4; have hcg4_5 : W3.cell? ⟨g4, 5, none⟩ = some (.int .i64 0) := (blk_cell BKg4.out 5).trans rfl; have hfg4_5 := blk_frozen BKg4.out 5; have hcg4_6 : W3.cell? ⟨g4, 6, none⟩ = some (.int .i64 0) := (blk_cell BKg4.out 6).trans rfl; have hfg4_6 := blk_frozen BKg4.out 6; have hcg4_7 : W3.cell? ⟨g4, 7, none⟩ = some (.int .i64 0) := (blk_cell BKg4.out 7).trans rfl; have hfg4_7 := blk_frozen BKg4.out 7; have hcg4_8 : W3.cell? ⟨g4, 8, none⟩ = some (.int .i64 0) := (blk_cell BKg4.out 8).trans rfl; have hfg4_8 := blk_frozen BKg4.out 8) | ((with_reducible refine gate_dst (N := 5) rfl ?_); refine box_event ?hg (N := 5) ?hd (cs := #[.bool false, .int .i64 0, .int .i64 0, .int .i64 0, .int .i64 0, .int .i64 0, .int .i64 0, .int .i64 0, .int .i64 0]) (t := 60) ?hr ?_; (case hd => rfl); (case hg => rfl); (case hr => first | (go_simp; done) | (go_simp; rfl)); intro g5 hg_ W4 hbox_ hb_; have GEg5 := Aside0.mk ((by rw [hg_]; exact (below_size HB.out)) : w.heap.size ≤ g5); have NBg2_g5 : g2 ≠ g5 := (by rw [hg_]; exact Nat.ne_of_lt (blk_lt BKg2.out)); have NBg5_g2 : g5 ≠ g2 := Ne.symm NBg2_g5; have NBg3_g5 : g3 ≠ g5 := (by rw [hg_]; exact Nat.ne_of_lt (blk_lt BKg3.out)); have NBg5_g3 : g5 ≠ g3 := Ne.symm NBg3_g5; have NBg4_g5 : g4 ≠ g5 := (by rw [hg_]; exact Nat.ne_of_lt (blk_lt BKg4.out)); have NBg5_g4 : g5 ≠ g4 := Ne.symm NBg4_g5; clear hg_; have n_ := Aside0.mk (blk_below BKg2.out hb_); clear BKg2; have BKg2 := n_; clear n_; clear hcg2_0 hfg2_0; clear hcg2_1 hfg2_1; clear hcg2_2 hfg2_2; clear hcg2_3 hfg2_3; clear hcg2_4 hfg2_4; clear hcg2_5 hfg2_5; clear hcg2_6 hfg2_6; clear hcg2_7 hfg2_7; clear hcg2_8 hfg2_8; have n_ := Aside0.mk (blk_below BKg3.out hb_); clear BKg3; have BKg3 := n_; clear n_; clear hcg3_0 hfg3_0; clear hcg3_1 hfg3_1; clear hcg3_2 hfg3_2; clear hcg3_3 hfg3_3; clear hcg3_4 hfg3_4; clear hcg3_5 hfg3_5; clear hcg3_6 hfg3_6; clear hcg3_7 hfg3_7; clear hcg3_8 hfg3_8; have n_ := Aside0.mk (blk_below BKg4.out hb_); clear BKg4; have BKg4 := n_; clear n_; clear hcg4_0 hfg4_0; clear hcg4_1 hfg4_1; clear hcg4_2 hfg4_2; clear hcg4_3 hfg4_3; clear hcg4_4 hfg4_4; clear hcg4_5 hfg4_5; clear hcg4_6 hfg4_6; clear hcg4_7 hfg4_7; clear hcg4_8 hfg4_8; have n_ := Aside0.mk (below_step HB.out hb_); clear HB; have HB := n_; clear n_; have BKg5 := Aside0.mk hbox_; clear hbox_ hb_; have hcg2_0 : W4.cell? ⟨g2, 0, none⟩ = some (.bool ma) := (blk_cell BKg2.out 0).trans rfl; have hfg2_0 := blk_frozen BKg2.out 0; have hcg2_1 : W4.cell? ⟨g2, 1, none⟩ = some (.int .i64 ((cdig A) 0)) := (blk_cell BKg2.out 1).trans rfl; have hfg2_1 := blk_frozen BKg2.out 1; have hcg2_2 : W4.cell? ⟨g2, 2, none⟩ = some (.int .i64 ((cdig A) 1)) := (blk_cell BKg2.out 2).trans rfl; have hfg2_2 := blk_frozen BKg2.out 2; have hcg2_3 : W4.cell? ⟨g2, 3, none⟩ = some (.int .i64 ((cdig A) 2)) := (blk_cell BKg2.out 3).trans rfl; have hfg2_3 := blk_frozen BKg2.out 3; have hcg2_4 : W4.cell? ⟨g2, 4, none⟩ = some (.int .i64 ((cdig A) 3)) := (blk_cell BKg2.out 4).trans rfl; have hfg2_4 := blk_frozen BKg2.out 4; have hcg2_5 : W4.cell? ⟨g2, 5, none⟩ = some (.int .i64 ((cdig A) 4)) := (blk_cell BKg2.out 5).trans rfl; have hfg2_5 := blk_frozen BKg2.out 5; have hcg2_6 : W4.cell? ⟨g2, 6, none⟩ = some (.int .i64 ((cdig A) 5)) := (blk_cell BKg2.out 6).trans rfl; have hfg2_6 := blk_frozen BKg2.out 6; have hcg2_7 : W4.cell? ⟨g2, 7, none⟩ = some (.int .i64 ((cdig A) 6)) := (blk_cell BKg2.out 7).trans rfl; have hfg2_7 := blk_frozen BKg2.out 7; have hcg2_8 : W4.cell? ⟨g2, 8, none⟩ = some (.int .i64 ((cdig A) 7)) := (blk_cell BKg2.out 8).trans rfl; have hfg2_8 := blk_frozen BKg2.out 8; have hcg3_0 : W4.cell? ⟨g3, 0, none⟩ = some (.bool mb) := (blk_cell BKg3.out 0).trans rfl; have hfg3_0 := blk_frozen BKg3.out 0; have hcg3_1 : W4.cell? ⟨g3, 1, none⟩ = some (.int .i64 ((cdig B) 0)) := (blk_cell BKg3.out 1).trans rfl; have hfg3_1 := blk_frozen BKg3.out 1; have hcg3_2 : W4.cell? ⟨g3, 2, none⟩ = some (.int .i64 ((cdig B) 1)) := (blk_cell BKg3.out 2).trans rfl; have hfg3_2 := blk_frozen BKg3.out 2; have hcg3_3 : W4.cell? ⟨g3, 3, none⟩ = some (.int .i64 ((cdig B) 2)) := (blk_cell BKg3.out 3).trans rfl; have hfg3_3 := blk_frozen BKg3.out 3; have hcg3_4 : W4.cell? ⟨g3, 4, none⟩ = some (.int .i64 ((cdig B) 3)) := (blk_cell BKg3.out 4).trans rfl; have hfg3_4 := blk_frozen BKg3.out 4; have hcg3_5 : W4.cell? ⟨g3, 5, none⟩ = some (.int .i64 ((cdig B) 4)) := (blk_cell BKg3.out 5).trans rfl; have hfg3_5 := blk_frozen BKg3.out 5; have hcg3_6 : W4.cell? ⟨g3, 6, none⟩ = some (.int .i64 ((cdig B) 5)) := (blk_cell BKg3.out 6).trans rfl; have hfg3_6 := blk_frozen BKg3.out 6; have hcg3_7 : W4.cell? ⟨g3, 7, none⟩ = some (.int .i64 ((cdig B) 6)) := (blk_cell BKg3.out 7).trans rfl; have hfg3_7 := blk_frozen BKg3.out 7; have hcg3_8 : W4.cell? ⟨g3, 8, none⟩ = some (.int .i64 ((cdig B) 7)) := (blk_cell BKg3.out 8).trans rfl; have hfg3_8 := blk_frozen BKg3.out 8; have hcg4_0 : W4.cell? ⟨g4, 0, none⟩ = some (.bool false) := (blk_cell BKg4.out 0).trans rfl; have hfg4_0 := blk_frozen BKg4.out 0; have hcg4_1 : W4.cell? ⟨g4, 1, none⟩ = some (.int .i64 0) := (blk_cell BKg4.out 1).trans rfl; have hfg4_1 := blk_frozen BKg4.out 1; have hcg4_2 : W4.cell? ⟨g4, 2, none⟩ = some (.int .i64 0) := (blk_cell BKg4.out 2).trans rfl; have hfg4_2 := blk_frozen BKg4.out 2; have hcg4_3 : W4.cell? ⟨g4, 3, none⟩ = some (.int .i64 0) := (blk_cell BKg4.out 3).trans rfl; have hfg4_3 := blk_frozen BKg4.out 3; have hcg4_4 : W4.cell? ⟨g4, 4, none⟩ = some (.int .i64 0) := (blk_cell BKg4.out 4).trans rfl; have hfg4_4 := blk_frozen BKg4.out 4; have hcg4_5 : W4.cell? ⟨g4, 5, none⟩ = some (.int .i64 0) := (blk_cell BKg4.out 5).trans rfl; have hfg4_5 := blk_frozen BKg4.out 5; have hcg4_6 : W4.cell? ⟨g4, 6, none⟩ = some (.int .i64 0) := (blk_cell BKg4.out 6).trans rfl; have hfg4_6 := blk_frozen BKg4.out 6; have hcg4_7 : W4.cell? ⟨g4, 7, none⟩ = some (.int .i64 0) := (blk_cell BKg4.out 7).trans rfl; have hfg4_7 := blk_frozen BKg4.out 7; have hcg4_8 : W4.cell? ⟨g4, 8, none⟩ = some (.int .i64 0) := (blk_cell BKg4.out 8).trans rfl; have hfg4_8 := blk_frozen BKg4.out 8; have hcg5_0 : W4.cell? ⟨g5, 0, none⟩ = some (.bool false) := (blk_cell BKg5.out 0).trans rfl; have hfg5_0 := blk_frozen BKg5.out 0; have hcg5_1 : W4.cell? ⟨g5, 1, none⟩ = some (.int .i64 0) := (blk_cell BKg5.out 1).trans rfl; have hfg5_1 := blk_frozen BKg5.out 1; have hcg5_2 : W4.cell? ⟨g5, 2, none⟩ = some (.int .i64 0) := (blk_cell BKg5.out 2).trans rfl; have hfg5_2 := blk_frozen BKg5.out 2; have hcg5_3 : W4.cell? ⟨g5, 3, none⟩ = some (.int .i64 0) := (blk_cell BKg5.out 3).trans rfl; have hfg5_3 := blk_frozen BKg5.out 3; have hcg5_4 : W4.cell? ⟨g5, 4, none⟩ = some (.int .i64 0) := (blk_cell BKg5.out 4).trans rfl; have hfg5_4 := blk_frozen BKg5.out 4; have hcg5_5 : W4.cell? ⟨g5, 5, none⟩ = some (.int .i64 0) := (blk_cell BKg5.out 5).trans rfl; have hfg5_5 := blk_frozen BKg5.out 5; have hcg5_6 : W4.cell? ⟨g5, 6, none⟩ = some (.int .i64 0) := (blk_cell BKg5.out 6).trans rfl; have hfg5_6 := blk_frozen BKg5.out 6; have hcg5_7 : W4.cell? ⟨g5, 7, none⟩ = some (.int .i64 0) := (blk_cell BKg5.out 7).trans rfl; have hfg5_7 := blk_frozen BKg5.out 7; have hcg5_8 : W4.cell? ⟨g5, 8, none⟩ = some (.int .i64 0) := (blk_cell BKg5.out 8).trans rfl; have hfg5_8 := blk_frozen BKg5.out 8))
  have n_ : Aside0 ((((((((((W4.setCell ⟨g5, 0, none⟩ (.bool (!(ma == mb)))).setCell ⟨g5, 1, none⟩ (.int .i64 0)).setCell ⟨g5, 2, none⟩ (.int .i64 0)).setCell ⟨g5, 3, none⟩ (.int .i64 0)).setCell ⟨g5, 4, none⟩ (.int .i64 0)).setCell ⟨g5, 5, none⟩ (.int .i64 0)).setCell ⟨g5, 6, none⟩ (.int .i64 0)).setCell ⟨g5, 7, none⟩ (.int .i64 0)).setCell ⟨g5, 8, none⟩ (.int .i64 0)).heap[g5]? = some (.cells #[.bool (!(ma == mb)), .int .i64 0, .int .i64 0, .int .i64 0, .int .i64 0, .int .i64 0, .int .i64 0, .int .i64 0, .int .i64 0] 60 (0, 0))) := ⟨by refine blk_put (cs := #[.bool (!(ma == mb)), .int .i64 0, .int .i64 0, .int .i64 0, .int .i64 0, .int .i64 0, .int .i64 0, .int .i64 0, .int .i64 0]) ?_ 8 _ rfl; refine blk_put (cs := #[.bool (!(ma == mb)), .int .i64 0, .int .i64 0, .int .i64 0, .int .i64 0, .int .i64 0, .int .i64 0, .int .i64 0, .int .i64 0]) ?_ 7 _ rfl; refine blk_put (cs := #[.bool (!(ma == mb)), .int .i64 0, .int .i64 0, .int .i64 0, .int .i64 0, .int .i64 0, .int .i64 0, .int .i64 0, .int .i64 0]) ?_ 6 _ rfl; refine blk_put (cs := #[.bool (!(ma == mb)), .int .i64 0, .int .i64 0, .int .i64 0, .int .i64 0, .int .i64 0, .int .i64 0, .int .i64 0, .int .i64 0]) ?_ 5 _ rfl; refine blk_put (cs := #[.bool (!(ma == mb)), .int .i64 0, .int .i64 0, .int .i64 0, .int .i64 0, .int .i64 0, .int .i64 0, .int .i64 0, .int .i64 0]) ?_ 4 _ rfl; refine blk_put (cs := #[.bool (!(ma == mb)), .int .i64 0, .int .i64 0, .int .i64 0, .int .i64 0, .int .i64 0, .int .i64 0, .int .i64 0, .int .i64 0]) ?_ 3 _ rfl; refine blk_put (cs := #[.bool (!(ma == mb)), .int .i64 0, .int .i64 0, .int .i64 0, .int .i64 0, .int .i64 0, .int .i64 0, .int .i64 0, .int .i64 0]) ?_ 2 _ rfl; refine blk_put (cs := #[.bool (!(ma == mb)), .int .i64 0, .int .i64 0, .int .i64 0, .int .i64 0, .int .i64 0, .int .i64 0, .int .i64 0, .int .i64 0]) ?_ 1 _ rfl; refine blk_put (cs := #[.bool false, .int .i64 0, .int .i64 0, .int .i64 0, .int .i64 0, .int .i64 0, .int .i64 0, .int .i64 0, .int .i64 0]) ?_ 0 _ rfl; exact BKg5.out⟩
  have m_ : Aside0 ((((((((((W4.setCell ⟨g5, 0, none⟩ (.bool (!(ma == mb)))).setCell ⟨g5, 1, none⟩ (.int .i64 0)).setCell ⟨g5, 2, none⟩ (.int .i64 0)).setCell ⟨g5, 3, none⟩ (.int .i64 0)).setCell ⟨g5, 4, none⟩ (.int .i64 0)).setCell ⟨g5, 5, none⟩ (.int .i64 0)).setCell ⟨g5, 6, none⟩ (.int .i64 0)).setCell ⟨g5, 7, none⟩ (.int .i64 0)).setCell ⟨g5, 8, none⟩ (.int .i64 0)).heap[g2]? = some (.cells (bigA ma (cdig A)) 60 (0, 0))) := ⟨(blk_far (blk_far (blk_far (blk_far (blk_far (blk_far (blk_far (blk_far (blk_far BKg2.out NBg2_g5 _) NBg2_g5 _) NBg2_g5 _) NBg2_g5 _) NBg2_g5 _) NBg2_g5 _) NBg2_g5 _) NBg2_g5 _) NBg2_g5 _)⟩
  clear BKg2; have BKg2 := m_; clear m_
  have m_ : Aside0 ((((((((((W4.setCell ⟨g5, 0, none⟩ (.bool (!(ma == mb)))).setCell ⟨g5, 1, none⟩ (.int .i64 0)).setCell ⟨g5, 2, none⟩ (.int .i64 0)).setCell ⟨g5, 3, none⟩ (.int .i64 0)).setCell ⟨g5, 4, none⟩ (.int .i64 0)).setCell ⟨g5, 5, none⟩ (.int .i64 0)).setCell ⟨g5, 6, none⟩ (.int .i64 0)).setCell ⟨g5, 7, none⟩ (.int .i64 0)).setCell ⟨g5, 8, none⟩ (.int .i64 0)).heap[g3]? = some (.cells (bigA mb (cdig B)) 60 (0, 0))) := ⟨(blk_far (blk_far (blk_far (blk_far (blk_far (blk_far (blk_far (blk_far (blk_far BKg3.out NBg3_g5 _) NBg3_g5 _) NBg3_g5 _) NBg3_g5 _) NBg3_g5 _) NBg3_g5 _) NBg3_g5 _) NBg3_g5 _) NBg3_g5 _)⟩
  clear BKg3; have BKg3 := m_; clear m_
  have m_ : Aside0 ((((((((((W4.setCell ⟨g5, 0, none⟩ (.bool (!(ma == mb)))).setCell ⟨g5, 1, none⟩ (.int .i64 0)).setCell ⟨g5, 2, none⟩ (.int .i64 0)).setCell ⟨g5, 3, none⟩ (.int .i64 0)).setCell ⟨g5, 4, none⟩ (.int .i64 0)).setCell ⟨g5, 5, none⟩ (.int .i64 0)).setCell ⟨g5, 6, none⟩ (.int .i64 0)).setCell ⟨g5, 7, none⟩ (.int .i64 0)).setCell ⟨g5, 8, none⟩ (.int .i64 0)).heap[g4]? = some (.cells #[.bool false, .int .i64 0, .int .i64 0, .int .i64 0, .int .i64 0, .int .i64 0, .int .i64 0, .int .i64 0, .int .i64 0] 60 (0, 0))) := ⟨(blk_far (blk_far (blk_far (blk_far (blk_far (blk_far (blk_far (blk_far (blk_far BKg4.out NBg4_g5 _) NBg4_g5 _) NBg4_g5 _) NBg4_g5 _) NBg4_g5 _) NBg4_g5 _) NBg4_g5 _) NBg4_g5 _) NBg4_g5 _)⟩
  clear BKg4; have BKg4 := m_; clear m_
  have b_ : Aside0 (Below w.heap.size w (((((((((W4.setCell ⟨g5, 0, none⟩ (.bool (!(ma == mb)))).setCell ⟨g5, 1, none⟩ (.int .i64 0)).setCell ⟨g5, 2, none⟩ (.int .i64 0)).setCell ⟨g5, 3, none⟩ (.int .i64 0)).setCell ⟨g5, 4, none⟩ (.int .i64 0)).setCell ⟨g5, 5, none⟩ (.int .i64 0)).setCell ⟨g5, 6, none⟩ (.int .i64 0)).setCell ⟨g5, 7, none⟩ (.int .i64 0)).setCell ⟨g5, 8, none⟩ (.int .i64 0))) := ⟨(below_set (below_set (below_set (below_set (below_set (below_set (below_set (below_set (below_set HB.out GEg5.out) GEg5.out) GEg5.out) GEg5.out) GEg5.out) GEg5.out) GEg5.out) GEg5.out) GEg5.out)⟩
  clear BKg5 HB; have BKg5 := n_; have HB := b_; clear n_ b_
  clear hcg2_0 hfg2_0
  clear hcg2_1 hfg2_1
  clear hcg2_2 hfg2_2
  clear hcg2_3 hfg2_3
  clear hcg2_4 hfg2_4
  clear hcg2_5 hfg2_5
  clear hcg2_6 hfg2_6
  clear hcg2_7 hfg2_7
  clear hcg2_8 hfg2_8
  clear hcg3_0 hfg3_0
  clear hcg3_1 hfg3_1
  clear hcg3_2 hfg3_2
  clear hcg3_3 hfg3_3
  clear hcg3_4 hfg3_4
  clear hcg3_5 hfg3_5
  clear hcg3_6 hfg3_6
  clear hcg3_7 hfg3_7
  clear hcg3_8 hfg3_8
  clear hcg4_0 hfg4_0
  clear hcg4_1 hfg4_1
  clear hcg4_2 hfg4_2
  clear hcg4_3 hfg4_3
  clear hcg4_4 hfg4_4
  clear hcg4_5 hfg4_5
  clear hcg4_6 hfg4_6
  clear hcg4_7 hfg4_7
  clear hcg4_8 hfg4_8
  clear hcg5_0 hfg5_0
  clear hcg5_1 hfg5_1
  clear hcg5_2 hfg5_2
  clear hcg5_3 hfg5_3
  clear hcg5_4 hfg5_4
  clear hcg5_5 hfg5_5
  clear hcg5_6 hfg5_6
  clear hcg5_7 hfg5_7
  clear hcg5_8 hfg5_8
  generalize (((((((((W4.setCell ⟨g5, 0, none⟩ (.bool (!(ma == mb)))).setCell ⟨g5, 1, none⟩ (.int .i64 0)).setCell ⟨g5, 2, none⟩ (.int .i64 0)).setCell ⟨g5, 3, none⟩ (.int .i64 0)).setCell ⟨g5, 4, none⟩ (.int .i64 0)).setCell ⟨g5, 5, none⟩ (.int .i64 0)).setCell ⟨g5, 6, none⟩ (.int .i64 0)).setCell ⟨g5, 7, none⟩ (.int .i64 0)).setCell ⟨g5, 8, none⟩ (.int .i64 0)) = W5 at *
  have hcg2_0 : W5.cell? ⟨g2, 0, none⟩ = some (.bool ma) := (blk_cell BKg2.out 0).trans rfl
  have hfg2_0 := blk_frozen BKg2.out 0
  have hcg2_1 : W5.cell? ⟨g2, 1, none⟩ = some (.int .i64 ((cdig A) 0)) := (blk_cell BKg2.out 1).trans rfl
  have hfg2_1 := blk_frozen BKg2.out 1
  have hcg2_2 : W5.cell? ⟨g2, 2, none⟩ = some (.int .i64 ((cdig A) 1)) := (blk_cell BKg2.out 2).trans rfl
  have hfg2_2 := blk_frozen BKg2.out 2
  have hcg2_3 : W5.cell? ⟨g2, 3, none⟩ = some (.int .i64 ((cdig A) 2)) := (blk_cell BKg2.out 3).trans rfl
  have hfg2_3 := blk_frozen BKg2.out 3
  have hcg2_4 : W5.cell? ⟨g2, 4, none⟩ = some (.int .i64 ((cdig A) 3)) := (blk_cell BKg2.out 4).trans rfl
  have hfg2_4 := blk_frozen BKg2.out 4
  have hcg2_5 : W5.cell? ⟨g2, 5, none⟩ = some (.int .i64 ((cdig A) 4)) := (blk_cell BKg2.out 5).trans rfl
  have hfg2_5 := blk_frozen BKg2.out 5
  have hcg2_6 : W5.cell? ⟨g2, 6, none⟩ = some (.int .i64 ((cdig A) 5)) := (blk_cell BKg2.out 6).trans rfl
  have hfg2_6 := blk_frozen BKg2.out 6
  have hcg2_7 : W5.cell? ⟨g2, 7, none⟩ = some (.int .i64 ((cdig A) 6)) := (blk_cell BKg2.out 7).trans rfl
  have hfg2_7 := blk_frozen BKg2.out 7
  have hcg2_8 : W5.cell? ⟨g2, 8, none⟩ = some (.int .i64 ((cdig A) 7)) := (blk_cell BKg2.out 8).trans rfl
  have hfg2_8 := blk_frozen BKg2.out 8
  have hcg3_0 : W5.cell? ⟨g3, 0, none⟩ = some (.bool mb) := (blk_cell BKg3.out 0).trans rfl
  have hfg3_0 := blk_frozen BKg3.out 0
  have hcg3_1 : W5.cell? ⟨g3, 1, none⟩ = some (.int .i64 ((cdig B) 0)) := (blk_cell BKg3.out 1).trans rfl
  have hfg3_1 := blk_frozen BKg3.out 1
  have hcg3_2 : W5.cell? ⟨g3, 2, none⟩ = some (.int .i64 ((cdig B) 1)) := (blk_cell BKg3.out 2).trans rfl
  have hfg3_2 := blk_frozen BKg3.out 2
  have hcg3_3 : W5.cell? ⟨g3, 3, none⟩ = some (.int .i64 ((cdig B) 2)) := (blk_cell BKg3.out 3).trans rfl
  have hfg3_3 := blk_frozen BKg3.out 3
  have hcg3_4 : W5.cell? ⟨g3, 4, none⟩ = some (.int .i64 ((cdig B) 3)) := (blk_cell BKg3.out 4).trans rfl
  have hfg3_4 := blk_frozen BKg3.out 4
  have hcg3_5 : W5.cell? ⟨g3, 5, none⟩ = some (.int .i64 ((cdig B) 4)) := (blk_cell BKg3.out 5).trans rfl
  have hfg3_5 := blk_frozen BKg3.out 5
  have hcg3_6 : W5.cell? ⟨g3, 6, none⟩ = some (.int .i64 ((cdig B) 5)) := (blk_cell BKg3.out 6).trans rfl
  have hfg3_6 := blk_frozen BKg3.out 6
  have hcg3_7 : W5.cell? ⟨g3, 7, none⟩ = some (.int .i64 ((cdig B) 6)) := (blk_cell BKg3.out 7).trans rfl
  have hfg3_7 := blk_frozen BKg3.out 7
  have hcg3_8 : W5.cell? ⟨g3, 8, none⟩ = some (.int .i64 ((cdig B) 7)) := (blk_cell BKg3.out 8).trans rfl
  have hfg3_8 := blk_frozen BKg3.out 8
  have hcg4_0 : W5.cell? ⟨g4, 0, none⟩ = some (.bool false) := (blk_cell BKg4.out 0).trans rfl
  have hfg4_0 := blk_frozen BKg4.out 0
  have hcg4_1 : W5.cell? ⟨g4, 1, none⟩ = some (.int .i64 0) := (blk_cell BKg4.out 1).trans rfl
  have hfg4_1 := blk_frozen BKg4.out 1
  have hcg4_2 : W5.cell? ⟨g4, 2, none⟩ = some (.int .i64 0) := (blk_cell BKg4.out 2).trans rfl
  have hfg4_2 := blk_frozen BKg4.out 2
  have hcg4_3 : W5.cell? ⟨g4, 3, none⟩ = some (.int .i64 0) := (blk_cell BKg4.out 3).trans rfl
  have hfg4_3 := blk_frozen BKg4.out 3
  have hcg4_4 : W5.cell? ⟨g4, 4, none⟩ = some (.int .i64 0) := (blk_cell BKg4.out 4).trans rfl
  have hfg4_4 := blk_frozen BKg4.out 4
  have hcg4_5 : W5.cell? ⟨g4, 5, none⟩ = some (.int .i64 0) := (blk_cell BKg4.out 5).trans rfl
  have hfg4_5 := blk_frozen BKg4.out 5
  have hcg4_6 : W5.cell? ⟨g4, 6, none⟩ = some (.int .i64 0) := (blk_cell BKg4.out 6).trans rfl
  have hfg4_6 := blk_frozen BKg4.out 6
  have hcg4_7 : W5.cell? ⟨g4, 7, none⟩ = some (.int .i64 0) := (blk_cell BKg4.out 7).trans rfl
  have hfg4_7 := blk_frozen BKg4.out 7
  have hcg4_8 : W5.cell? ⟨g4, 8, none⟩ = some (.int .i64 0) := (blk_cell BKg4.out 8).trans rfl
  have hfg4_8 := blk_frozen BKg4.out 8
  have hcg5_0 : W5.cell? ⟨g5, 0, none⟩ = some (.bool (!(ma == mb))) := (blk_cell BKg5.out 0).trans rfl
  have hfg5_0 := blk_frozen BKg5.out 0
  have hcg5_1 : W5.cell? ⟨g5, 1, none⟩ = some (.int .i64 0) := (blk_cell BKg5.out 1).trans rfl
  have hfg5_1 := blk_frozen BKg5.out 1
  have hcg5_2 : W5.cell? ⟨g5, 2, none⟩ = some (.int .i64 0) := (blk_cell BKg5.out 2).trans rfl
  have hfg5_2 := blk_frozen BKg5.out 2
  have hcg5_3 : W5.cell? ⟨g5, 3, none⟩ = some (.int .i64 0) := (blk_cell BKg5.out 3).trans rfl
  have hfg5_3 := blk_frozen BKg5.out 3
  have hcg5_4 : W5.cell? ⟨g5, 4, none⟩ = some (.int .i64 0) := (blk_cell BKg5.out 4).trans rfl
  have hfg5_4 := blk_frozen BKg5.out 4
  have hcg5_5 : W5.cell? ⟨g5, 5, none⟩ = some (.int .i64 0) := (blk_cell BKg5.out 5).trans rfl
  have hfg5_5 := blk_frozen BKg5.out 5
  have hcg5_6 : W5.cell? ⟨g5, 6, none⟩ = some (.int .i64 0) := (blk_cell BKg5.out 6).trans rfl
  have hfg5_6 := blk_frozen BKg5.out 6
  have hcg5_7 : W5.cell? ⟨g5, 7, none⟩ = some (.int .i64 0) := (blk_cell BKg5.out 7).trans rfl
  have hfg5_7 := blk_frozen BKg5.out 7
  have hcg5_8 : W5.cell? ⟨g5, 8, none⟩ = some (.int .i64 0) := (blk_cell BKg5.out 8).trans rfl
  have hfg5_8 := blk_frozen BKg5.out 8
  go_wp2_with (first | ((with_reducible refine gate_dst (N := 6) rfl ?_); refine box_event ?hg (N := 6) ?hd (cs := #[.bool false, .int .i64 0, .int .i64 0, .int .i64 0, .int .i64 0, .int .i64 0, .int .i64 0, .int .i64 0, .int .i64 0]) (t := 60) ?hr ?_; (case hd => rfl); (case hg => rfl); (case hr => first | (go_simp; done) | (go_simp; rfl)); intro g6 hg_ W6 hbox_ hb_; have GEg6 := Aside0.mk ((by rw [hg_]; exact (below_size HB.out)) : w.heap.size ≤ g6); have NBg2_g6 : g2 ≠ g6 := (by rw [hg_]; exact Nat.ne_of_lt (blk_lt BKg2.out)); have NBg6_g2 : g6 ≠ g2 := Ne.symm NBg2_g6; have NBg3_g6 : g3 ≠ g6 := (by rw [hg_]; exact Nat.ne_of_lt (blk_lt BKg3.out)); have NBg6_g3 : g6 ≠ g3 := Ne.symm NBg3_g6; have NBg4_g6 : g4 ≠ g6 := (by rw [hg_]; exact Nat.ne_of_lt (blk_lt BKg4.out)); have NBg6_g4 : g6 ≠ g4 := Ne.symm NBg4_g6; have NBg5_g6 : g5 ≠ g6 := (by rw [hg_]; exact Nat.ne_of_lt (blk_lt BKg5.out)); have NBg6_g5 : g6 ≠ g5 := Ne.symm NBg5_g6; clear hg_; have n_ := Aside0.mk (blk_below BKg2.out hb_); clear BKg2; have BKg2 := n_; clear n_; clear hcg2_0 hfg2_0; clear hcg2_1 hfg2_1; clear hcg2_2 hfg2_2; clear hcg2_3 hfg2_3; clear hcg2_4 hfg2_4; clear hcg2_5 hfg2_5; clear hcg2_6 hfg2_6; clear hcg2_7 hfg2_7; clear hcg2_8 hfg2_8; have n_ := Aside0.mk (blk_below BKg3.out hb_); clear BKg3; have BKg3 := n_; clear n_; clear hcg3_0 hfg3_0; clear hcg3_1 hfg3_1; clear hcg3_2 hfg3_2; clear hcg3_3 hfg3_3; clear hcg3_4 hfg3_4; clear hcg3_5 hfg3_5; clear hcg3_6 hfg3_6; clear hcg3_7 hfg3_7; clear hcg3_8 hfg3_8; have n_ := Aside0.mk (blk_below BKg4.out hb_); clear BKg4; have BKg4 := n_; clear n_; clear hcg4_0 hfg4_0; clear hcg4_1 hfg4_1; clear hcg4_2 hfg4_2; clear hcg4_3 hfg4_3; clear hcg4_4 hfg4_4; clear hcg4_5 hfg4_5; clear hcg4_6 hfg4_6; clear hcg4_7 hfg4_7; clear hcg4_8 hfg4_8; have n_ := Aside0.mk (blk_below BKg5.out hb_); clear BKg5; have BKg5 := n_; clear n_; clear hcg5_0 hfg5_0; clear hcg5_1 hfg5_1; clear hcg5_2 hfg5_2; clear hcg5_3 hfg5_3; clear hcg5_4 hfg5_4; clear hcg5_5 hfg5_5; clear hcg5_6 hfg5_6; clear hcg5_7 hfg5_7; clear hcg5_8 hfg5_8; have n_ := Aside0.mk (below_step HB.out hb_); clear HB; have HB := n_; clear n_; have BKg6 := Aside0.mk hbox_; clear hbox_ hb_; have hcg2_0 : W6.cell? ⟨g2, 0, none⟩ = some (.bool ma) := (blk_cell BKg2.out 0).trans rfl; have hfg2_0 := blk_frozen BKg2.out 0; have hcg2_1 : W6.cell? ⟨g2, 1, none⟩ = some (.int .i64 ((cdig A) 0)) := (blk_cell BKg2.out 1).trans rfl; have hfg2_1 := blk_frozen BKg2.out 1; have hcg2_2 : W6.cell? ⟨g2, 2, none⟩ = some (.int .i64 ((cdig A) 1)) := (blk_cell BKg2.out 2).trans rfl; have hfg2_2 := blk_frozen BKg2.out 2; have hcg2_3 : W6.cell? ⟨g2, 3, none⟩ = some (.int .i64 ((cdig A) 2)) := (blk_cell BKg2.out 3).trans rfl; have hfg2_3 := blk_frozen BKg2.out 3; have hcg2_4 : W6.cell? ⟨g2, 4, none⟩ = some (.int .i64 ((cdig A) 3)) := (blk_cell BKg2.out 4).trans rfl; have hfg2_4 := blk_frozen BKg2.out 4; have hcg2_5 : W6.cell? ⟨g2, 5, none⟩ = some (.int .i64 ((cdig A) 4)) := (blk_cell BKg2.out 5).trans rfl; have hfg2_5 := blk_frozen BKg2.out 5; have hcg2_6 : W6.cell? ⟨g2, 6, none⟩ = some (.int .i64 ((cdig A) 5)) := (blk_cell BKg2.out 6).trans rfl; have hfg2_6 := blk_frozen BKg2.out 6; have hcg2_7 : W6.cell? ⟨g2, 7, none⟩ = some (.int .i64 ((cdig A) 6)) := (blk_cell BKg2.out 7).trans rfl; have hfg2_7 := blk_frozen BKg2.out 7; have hcg2_8 : W6.cell? ⟨g2, 8, none⟩ = some (.int .i64 ((cdig A) 7)) := (blk_cell BKg2.out 8).trans rfl; have hfg2_8 := blk_frozen BKg2.out 8; have hcg3_0 : W6.cell? ⟨g3, 0, none⟩ = some (.bool mb) := (blk_cell BKg3.out 0).trans rfl; have hfg3_0 := blk_frozen BKg3.out 0; have hcg3_1 : W6.cell? ⟨g3, 1, none⟩ = some (.int .i64 ((cdig B) 0)) := (blk_cell BKg3.out 1).trans rfl; have hfg3_1 := blk_frozen BKg3.out 1; have hcg3_2 : W6.cell? ⟨g3, 2, none⟩ = some (.int .i64 ((cdig B) 1)) := (blk_cell BKg3.out 2).trans rfl; have hfg3_2 := blk_frozen BKg3.out 2; have hcg3_3 : W6.cell? ⟨g3, 3, none⟩ = some (.int .i64 ((cdig B) 2)) := (blk_cell BKg3.out 3).trans rfl; have hfg3_3 := blk_frozen BKg3.out 3; have hcg3_4 : W6.cell? ⟨g3, 4, none⟩ = some (.int .i64 ((cdig B) 3)) := (blk_cell BKg3.out 4).trans rfl; have hfg3_4 := blk_frozen BKg3.out 4; have hcg3_5 : W6.cell? ⟨g3, 5, none⟩ = some (.int .i64 ((cdig B) 4)) := (blk_cell BKg3.out 5).trans rfl; have hfg3_5 := blk_frozen BKg3.out 5; have hcg3_6 : W6.cell? ⟨g3, 6, none⟩ = some (.int .i64 ((cdig B) 5)) := (blk_cell BKg3.out 6).trans rfl; have hfg3_6 := blk_frozen BKg3.out 6; have hcg3_7 : W6.cell? ⟨g3, 7, none⟩ = some (.int .i64 ((cdig B) 6)) := (blk_cell BKg3.out 7).trans rfl; have hfg3_7 := blk_frozen BKg3.out 7; have hcg3_8 : W6.cell? ⟨g3, 8, none⟩ = some (.int .i64 ((cdig B) 7)) := (blk_cell BKg3.out 8).trans rfl; have hfg3_8 := blk_frozen BKg3.out 8; have hcg4_0 : W6.cell? ⟨g4, 0, none⟩ = some (.bool false) := (blk_cell BKg4.out 0).trans rfl; have hfg4_0 := blk_frozen BKg4.out 0; have hcg4_1 : W6.cell? ⟨g4, 1, none⟩ = some (.int .i64 0) := (blk_cell BKg4.out 1).trans rfl; have hfg4_1 := blk_frozen BKg4.out 1; have hcg4_2 : W6.cell? ⟨g4, 2, none⟩ = some (.int .i64 0) := (blk_cell BKg4.out 2).trans rfl; have hfg4_2 := blk_frozen BKg4.out 2; have hcg4_3 : W6.cell? ⟨g4, 3, none⟩ = some (.int .i64 0) := (blk_cell BKg4.out 3).trans rfl; have hfg4_3 := blk_frozen BKg4.out 3; have hcg4_4 : W6.cell? ⟨g4, 4, none⟩ = some (.int .i64 0) := (blk_cell BKg4.out 4).trans rfl; have hfg4_4 := blk_frozen BKg4.out 4; have hcg4_5 : W6.cell? ⟨g4, 5, none⟩ = some (.int .i64 0) := (blk_cell BKg4.out 5).trans rfl; have hfg4_5 := blk_frozen BKg4.out 5; have hcg4_6 : W6.cell? ⟨g4, 6, none⟩ = some (.int .i64 0) := (blk_cell BKg4.out 6).trans rfl; have hfg4_6 := blk_frozen BKg4.out 6; have hcg4_7 : W6.cell? ⟨g4, 7, none⟩ = some (.int .i64 0) := (blk_cell BKg4.out 7).trans rfl; have hfg4_7 := blk_frozen BKg4.out 7; have hcg4_8 : W6.cell? ⟨g4, 8, none⟩ = some (.int .i64 0) := (blk_cell BKg4.out 8).trans rfl; have hfg4_8 := blk_frozen BKg4.out 8; have hcg5_0 : W6.cell? ⟨g5, 0, none⟩ = some (.bool (!(ma == mb))) := (blk_cell BKg5.out 0).trans rfl; have hfg5_0 := blk_frozen BKg5.out 0; have hcg5_1 : W6.cell? ⟨g5, 1, none⟩ = some (.int .i64 0) := (blk_cell BKg5.out 1).trans rfl; have hfg5_1 := blk_frozen BKg5.out 1; have hcg5_2 : W6.cell? ⟨g5, 2, none⟩ = some (.int .i64 0) := (blk_cell BKg5.out 2).trans rfl; have hfg5_2 := blk_frozen BKg5.out 2; have hcg5_3 : W6.cell? ⟨g5, 3, none⟩ = some (.int .i64 0) := (blk_cell BKg5.out 3).trans rfl; have hfg5_3 := blk_frozen BKg5.out 3; have hcg5_4 : W6.cell? ⟨g5, 4, none⟩ = some (.int .i64 0) := (blk_cell BKg5.out 4).trans rfl; have hfg5_4 := blk_frozen BKg5.out 4; have hcg5_5 : W6.cell? ⟨g5, 5, none⟩ = some (.int .i64 0) := (blk_cell BKg5.out 5).trans rfl; have hfg5_5 := blk_frozen BKg5.out 5; have hcg5_6 : W6.cell? ⟨g5, 6, none⟩ = some (.int .i64 0) := (blk_cell BKg5.out 6).trans rfl; have hfg5_6 := blk_frozen BKg5.out 6; have hcg5_7 : W6.cell? ⟨g5, 7, none⟩ = some (.int .i64 0) := (blk_cell BKg5.out 7).trans rfl; have hfg5_7 := blk_frozen BKg5.out 7; have hcg5_8 : W6.cell? ⟨g5, 8, none⟩ = some (.int .i64 0) := (blk_cell BKg5.out 8).trans rfl; have hfg5_8 := blk_frozen BKg5.out 8; have hcg6_0 : W6.cell? ⟨g6, 0, none⟩ = some (.bool false) := (blk_cell BKg6.out 0).trans rfl; have hfg6_0 := blk_frozen BKg6.out 0; have hcg6_1 : W6.cell? ⟨g6, 1, none⟩ = some (.int .i64 0) := (blk_cell BKg6.out 1).trans rfl; have hfg6_1 := blk_frozen BKg6.out 1; have hcg6_2 : W6.cell? ⟨g6, 2, none⟩ = some (.int .i64 0) := (blk_cell BKg6.out 2).trans rfl; have hfg6_2 := blk_frozen BKg6.out 2; have hcg6_3 : W6.cell? ⟨g6, 3, none⟩ = some (.int .i64 0) := (blk_cell BKg6.out 3).trans rfl; have hfg6_3 := blk_frozen BKg6.out 3; have hcg6_4 : W6.cell? ⟨g6, 4, none⟩ = some (.int .i64 0) := (blk_cell BKg6.out 4).trans rfl; have hfg6_4 := blk_frozen BKg6.out 4; have hcg6_5 : W6.cell? ⟨g6, 5, none⟩ = some (.int .i64 0) := (blk_cell BKg6.out 5).trans rfl; have hfg6_5 := blk_frozen BKg6.out 5; have hcg6_6 : W6.cell? ⟨g6, 6, none⟩ = some (.int .i64 0) := (blk_cell BKg6.out 6).trans rfl; have hfg6_6 := blk_frozen BKg6.out 6; have hcg6_7 : W6.cell? ⟨g6, 7, none⟩ = some (.int .i64 0) := (blk_cell BKg6.out 7).trans rfl; have hfg6_7 := blk_frozen BKg6.out 7; have hcg6_8 : W6.cell? ⟨g6, 8, none⟩ = some (.int .i64 0) := (blk_cell BKg6.out 8).trans rfl; have hfg6_8 := blk_frozen BKg6.out 8))
  go_loopw [7] (fun vi wr => ∃ (j : Nat) (q r : Int), vi = .int .i64 ((j : Int) - 1) ∧ Aside0 (j ≤ 128) ∧ Aside0 (OvR A B j q r) ∧ Aside0 (wr.heap[g6]? = some (.cells (bigA false (cdig r)) 60 (0, 0))) ∧ Aside0 (wr.heap[g5]? = some (.cells (bigA (!(ma == mb)) (cdig q)) 60 (0, 0))) ∧ Aside0 (wr.heap[g2]? = some (.cells (bigA ma (cdig A)) 60 (0, 0))) ∧ Aside0 (wr.heap[g3]? = some (.cells (bigA mb (cdig B)) 60 (0, 0))) ∧ Aside0 (wr.heap[g4]? = some (.cells #[.bool false, .int .i64 0, .int .i64 0, .int .i64 0, .int .i64 0, .int .i64 0, .int .i64 0, .int .i64 0, .int .i64 0] 60 (0, 0))) ∧ Aside0 (Below w.heap.size w wr)) (fun vi _ => (intOf vi + 1).toNat)
  case atStart => exact ⟨128, 0, 0, rfl, ⟨by omega⟩, ⟨OvR.start ha.nonneg ha.lt hB⟩, ⟨by rw [show bigA false (cdig 0) = #[.bool false, .int .i64 0, .int .i64 0, .int .i64 0, .int .i64 0, .int .i64 0, .int .i64 0, .int .i64 0, .int .i64 0] from by simp [bigA, cdig]]; exact BKg6.out⟩, ⟨by rw [show bigA (!(ma == mb)) (cdig 0) = #[.bool (!(ma == mb)), .int .i64 0, .int .i64 0, .int .i64 0, .int .i64 0, .int .i64 0, .int .i64 0, .int .i64 0, .int .i64 0] from by simp [bigA, cdig]]; exact BKg5.out⟩, BKg2, BKg3, BKg4, HB⟩
  case round =>
    clear BKg2 BKg3 BKg4 BKg5 BKg6 HB hcg2_0 hfg2_0 hcg2_1 hfg2_1 hcg2_2 hfg2_2 hcg2_3 hfg2_3 hcg2_4 hfg2_4 hcg2_5 hfg2_5 hcg2_6 hfg2_6 hcg2_7 hfg2_7 hcg2_8 hfg2_8 hcg3_0 hfg3_0 hcg3_1 hfg3_1 hcg3_2 hfg3_2 hcg3_3 hfg3_3 hcg3_4 hfg3_4 hcg3_5 hfg3_5 hcg3_6 hfg3_6 hcg3_7 hfg3_7 hcg3_8 hfg3_8 hcg4_0 hfg4_0 hcg4_1 hfg4_1 hcg4_2 hfg4_2 hcg4_3 hfg4_3 hcg4_4 hfg4_4 hcg4_5 hfg4_5 hcg4_6 hfg4_6 hcg4_7 hfg4_7 hcg4_8 hfg4_8 hcg5_0 hfg5_0 hcg5_1 hfg5_1 hcg5_2 hfg5_2 hcg5_3 hfg5_3 hcg5_4 hfg5_4 hcg5_5 hfg5_5 hcg5_6 hfg5_6 hcg5_7 hfg5_7 hcg5_8 hfg5_8 hcg6_0 hfg6_0 hcg6_1 hfg6_1 hcg6_2 hfg6_2 hcg6_3 hfg6_3 hcg6_4 hfg6_4 hcg6_5 hfg6_5 hcg6_6 hfg6_6 hcg6_7 hfg6_7 hcg6_8 hfg6_8
    obtain ⟨j, q, r, rfl, Hj, HR, BKg6, BKg5, BKg2, BKg3, BKg4, HB⟩ := hrel
    have hj := Hj.out
    cases j with
    | zero =>
      rw [show (((0 : Nat) : Int) - 1) = -1 from rfl]
      have hq := HR.out.fin
      have hcg5_0 : wr.cell? ⟨g5, 0, none⟩ = some (.bool (!(ma == mb))) := (blk_cell BKg5.out 0).trans rfl; have hfg5_0 := blk_frozen BKg5.out 0
      have hcg5_1 : wr.cell? ⟨g5, 1, none⟩ = some (.int .i64 ((cdig q) 0)) := (blk_cell BKg5.out 1).trans rfl; have hfg5_1 := blk_frozen BKg5.out 1
      have hcg5_2 : wr.cell? ⟨g5, 2, none⟩ = some (.int .i64 ((cdig q) 1)) := (blk_cell BKg5.out 2).trans rfl; have hfg5_2 := blk_frozen BKg5.out 2
      have hcg5_3 : wr.cell? ⟨g5, 3, none⟩ = some (.int .i64 ((cdig q) 2)) := (blk_cell BKg5.out 3).trans rfl; have hfg5_3 := blk_frozen BKg5.out 3
      have hcg5_4 : wr.cell? ⟨g5, 4, none⟩ = some (.int .i64 ((cdig q) 3)) := (blk_cell BKg5.out 4).trans rfl; have hfg5_4 := blk_frozen BKg5.out 4
      have hcg5_5 : wr.cell? ⟨g5, 5, none⟩ = some (.int .i64 ((cdig q) 4)) := (blk_cell BKg5.out 5).trans rfl; have hfg5_5 := blk_frozen BKg5.out 5
      have hcg5_6 : wr.cell? ⟨g5, 6, none⟩ = some (.int .i64 ((cdig q) 5)) := (blk_cell BKg5.out 6).trans rfl; have hfg5_6 := blk_frozen BKg5.out 6
      have hcg5_7 : wr.cell? ⟨g5, 7, none⟩ = some (.int .i64 ((cdig q) 6)) := (blk_cell BKg5.out 7).trans rfl; have hfg5_7 := blk_frozen BKg5.out 7
      have hcg5_8 : wr.cell? ⟨g5, 8, none⟩ = some (.int .i64 ((cdig q) 7)) := (blk_cell BKg5.out 8).trans rfl; have hfg5_8 := blk_frozen BKg5.out 8
      have hcg4_0 : wr.cell? ⟨g4, 0, none⟩ = some (.bool false) := (blk_cell BKg4.out 0).trans rfl; have hfg4_0 := blk_frozen BKg4.out 0
      have hcg4_1 : wr.cell? ⟨g4, 1, none⟩ = some (.int .i64 0) := (blk_cell BKg4.out 1).trans rfl; have hfg4_1 := blk_frozen BKg4.out 1
      have hcg4_2 : wr.cell? ⟨g4, 2, none⟩ = some (.int .i64 0) := (blk_cell BKg4.out 2).trans rfl; have hfg4_2 := blk_frozen BKg4.out 2
      have hcg4_3 : wr.cell? ⟨g4, 3, none⟩ = some (.int .i64 0) := (blk_cell BKg4.out 3).trans rfl; have hfg4_3 := blk_frozen BKg4.out 3
      have hcg4_4 : wr.cell? ⟨g4, 4, none⟩ = some (.int .i64 0) := (blk_cell BKg4.out 4).trans rfl; have hfg4_4 := blk_frozen BKg4.out 4
      have hcg4_5 : wr.cell? ⟨g4, 5, none⟩ = some (.int .i64 0) := (blk_cell BKg4.out 5).trans rfl; have hfg4_5 := blk_frozen BKg4.out 5
      have hcg4_6 : wr.cell? ⟨g4, 6, none⟩ = some (.int .i64 0) := (blk_cell BKg4.out 6).trans rfl; have hfg4_6 := blk_frozen BKg4.out 6
      have hcg4_7 : wr.cell? ⟨g4, 7, none⟩ = some (.int .i64 0) := (blk_cell BKg4.out 7).trans rfl; have hfg4_7 := blk_frozen BKg4.out 7
      have hcg4_8 : wr.cell? ⟨g4, 8, none⟩ = some (.int .i64 0) := (blk_cell BKg4.out 8).trans rfl; have hfg4_8 := blk_frozen BKg4.out 8
      have HQ := Lib.hid hq; clear hq
      go_wp2
      refine bodyPost_ret (results_cell_row rfl _ _ g4 60 #[.bool (!(ma == mb)), .int .i64 ((cdig q) 0), .int .i64 ((cdig q) 1), .int .i64 ((cdig q) 2), .int .i64 ((cdig q) 3), .int .i64 ((cdig q) 4), .int .i64 ((cdig q) 5), .int .i64 ((cdig q) 6), .int .i64 ((cdig q) 7)] (0, 0) _ rfl (by (with_reducible repeat (first | refine blk_drewN ?_ _ | refine blk_drew ?_ | refine blk_alloc ?_ _)); refine blk_put (cs := #[.bool (!(ma == mb)), .int .i64 ((cdig q) 0), .int .i64 ((cdig q) 1), .int .i64 ((cdig q) 2), .int .i64 ((cdig q) 3), .int .i64 ((cdig q) 4), .int .i64 ((cdig q) 5), .int .i64 ((cdig q) 6), .int .i64 0]) ?_ 8 _ rfl; (with_reducible repeat (first | refine blk_drewN ?_ _ | refine blk_drew ?_ | refine blk_alloc ?_ _)); refine blk_put (cs := #[.bool (!(ma == mb)), .int .i64 ((cdig q) 0), .int .i64 ((cdig q) 1), .int .i64 ((cdig q) 2), .int .i64 ((cdig q) 3), .int .i64 ((cdig q) 4), .int .i64 ((cdig q) 5), .int .i64 0, .int .i64 0]) ?_ 7 _ rfl; (with_reducible repeat (first | refine blk_drewN ?_ _ | refine blk_drew ?_ | refine blk_alloc ?_ _)); refine blk_put (cs := #[.bool (!(ma == mb)), .int .i64 ((cdig q) 0), .int .i64 ((cdig q) 1), .int .i64 ((cdig q) 2), .int .i64 ((cdig q) 3), .int .i64 ((cdig q) 4), .int .i64 0, .int .i64 0, .int .i64 0]) ?_ 6 _ rfl; (with_reducible repeat (first | refine blk_drewN ?_ _ | refine blk_drew ?_ | refine blk_alloc ?_ _)); refine blk_put (cs := #[.bool (!(ma == mb)), .int .i64 ((cdig q) 0), .int .i64 ((cdig q) 1), .int .i64 ((cdig q) 2), .int .i64 ((cdig q) 3), .int .i64 0, .int .i64 0, .int .i64 0, .int .i64 0]) ?_ 5 _ rfl; (with_reducible repeat (first | refine blk_drewN ?_ _ | refine blk_drew ?_ | refine blk_alloc ?_ _)); refine blk_put (cs := #[.bool (!(ma == mb)), .int .i64 ((cdig q) 0), .int .i64 ((cdig q) 1), .int .i64 ((cdig q) 2), .int .i64 0, .int .i64 0, .int .i64 0, .int .i64 0, .int .i64 0]) ?_ 4 _ rfl; (with_reducible repeat (first | refine blk_drewN ?_ _ | refine blk_drew ?_ | refine blk_alloc ?_ _)); refine blk_put (cs := #[.bool (!(ma == mb)), .int .i64 ((cdig q) 0), .int .i64 ((cdig q) 1), .int .i64 0, .int .i64 0, .int .i64 0, .int .i64 0, .int .i64 0, .int .i64 0]) ?_ 3 _ rfl; (with_reducible repeat (first | refine blk_drewN ?_ _ | refine blk_drew ?_ | refine blk_alloc ?_ _)); refine blk_put (cs := #[.bool (!(ma == mb)), .int .i64 ((cdig q) 0), .int .i64 0, .int .i64 0, .int .i64 0, .int .i64 0, .int .i64 0, .int .i64 0, .int .i64 0]) ?_ 2 _ rfl; (with_reducible repeat (first | refine blk_drewN ?_ _ | refine blk_drew ?_ | refine blk_alloc ?_ _)); refine blk_put (cs := #[.bool (!(ma == mb)), .int .i64 0, .int .i64 0, .int .i64 0, .int .i64 0, .int .i64 0, .int .i64 0, .int .i64 0, .int .i64 0]) ?_ 1 _ rfl; (with_reducible repeat (first | refine blk_drewN ?_ _ | refine blk_drew ?_ | refine blk_alloc ?_ _)); refine blk_put (cs := #[.bool false, .int .i64 0, .int .i64 0, .int .i64 0, .int .i64 0, .int .i64 0, .int .i64 0, .int .i64 0, .int .i64 0]) ?_ 0 _ rfl; (with_reducible repeat (first | refine blk_drewN ?_ _ | refine blk_drew ?_ | refine blk_alloc ?_ _)); exact BKg4.out) Tryd.underlying60 rfl (by kernel_rfl)) rfl ?_
      exact ⟨by rw [← HQ.out]; rfl, by repeat (first | (with_reducible first | exact HB.out | apply below_alloc | apply pw_below_drewN | apply below_drew1 | refine below_set ?_ GEg4.out) | exact HB.out)⟩
    | succ k =>
      rw [show (((k + 1 : Nat) : Int) - 1) = (k : Int) from by omega]
      obtain ⟨d, hd⟩ : ∃ d : Nat, d = k / 16 := ⟨_, rfl⟩
      obtain ⟨e, he⟩ : ∃ e : Nat, e = k % 16 := ⟨_, rfl⟩
      have hd8 : d < 8 := by omega
      have he16 : e < 16 := by omega
      have x1 : (k : Int) / 16 = (d : Int) := by omega
      have x2 : (k : Int) % 16 = (e : Int) := by omega
      have x3 : (k : Int).tdiv 16 = (d : Int) := by rw [Int.tdiv_eq_ediv_of_nonneg (by omega)]; exact x1
      have x4 : (k : Int).tmod 16 = (e : Int) := by rw [Int.tmod_eq_emod_of_nonneg (by omega)]; exact x2
      have x5 : IntKind.i64.wrap (d : Int) = (d : Int) := by rw [wrap_i64]; omega
      have x6 : IntKind.i64.wrap (e : Int) = (e : Int) := by rw [wrap_i64]; omega
      have x7 : (0 : Int) ≤ (d : Int) := by omega
      have x8 : (d : Int) < 8 := by omega
      obtain ⟨y, hy⟩ : ∃ y, y = cdig A d := ⟨_, rfl⟩
      have y01 := ha.dig d hd8; rw [← hy] at y01; obtain ⟨y0, y1⟩ := y01
      have c2 : wr.cell? ⟨g2, 1 + d, none⟩ = some (.int .i64 y) := (blk_cell BKg2.out (1 + d)).trans ((big_get ma (cdig A) hd8).trans (by rw [hy]))
      have HY := Lib.hid hy; have HD := Lib.hid hd; have HE := Lib.hid he; clear hy hd he
      have hcg6_0 : wr.cell? ⟨g6, 0, none⟩ = some (.bool false) := (blk_cell BKg6.out 0).trans rfl; have hfg6_0 := blk_frozen BKg6.out 0
      have hcg6_1 : wr.cell? ⟨g6, 1, none⟩ = some (.int .i64 ((cdig r) 0)) := (blk_cell BKg6.out 1).trans rfl; have hfg6_1 := blk_frozen BKg6.out 1
      have hcg6_2 : wr.cell? ⟨g6, 2, none⟩ = some (.int .i64 ((cdig r) 1)) := (blk_cell BKg6.out 2).trans rfl; have hfg6_2 := blk_frozen BKg6.out 2
      have hcg6_3 : wr.cell? ⟨g6, 3, none⟩ = some (.int .i64 ((cdig r) 2)) := (blk_cell BKg6.out 3).trans rfl; have hfg6_3 := blk_frozen BKg6.out 3
      have hcg6_4 : wr.cell? ⟨g6, 4, none⟩ = some (.int .i64 ((cdig r) 3)) := (blk_cell BKg6.out 4).trans rfl; have hfg6_4 := blk_frozen BKg6.out 4
      have hcg6_5 : wr.cell? ⟨g6, 5, none⟩ = some (.int .i64 ((cdig r) 4)) := (blk_cell BKg6.out 5).trans rfl; have hfg6_5 := blk_frozen BKg6.out 5
      have hcg6_6 : wr.cell? ⟨g6, 6, none⟩ = some (.int .i64 ((cdig r) 5)) := (blk_cell BKg6.out 6).trans rfl; have hfg6_6 := blk_frozen BKg6.out 6
      have hcg6_7 : wr.cell? ⟨g6, 7, none⟩ = some (.int .i64 ((cdig r) 6)) := (blk_cell BKg6.out 7).trans rfl; have hfg6_7 := blk_frozen BKg6.out 7
      have hcg6_8 : wr.cell? ⟨g6, 8, none⟩ = some (.int .i64 ((cdig r) 7)) := (blk_cell BKg6.out 8).trans rfl; have hfg6_8 := blk_frozen BKg6.out 8
      have hcg5_0 : wr.cell? ⟨g5, 0, none⟩ = some (.bool (!(ma == mb))) := (blk_cell BKg5.out 0).trans rfl; have hfg5_0 := blk_frozen BKg5.out 0
      have hcg5_1 : wr.cell? ⟨g5, 1, none⟩ = some (.int .i64 ((cdig q) 0)) := (blk_cell BKg5.out 1).trans rfl; have hfg5_1 := blk_frozen BKg5.out 1
      have hcg5_2 : wr.cell? ⟨g5, 2, none⟩ = some (.int .i64 ((cdig q) 1)) := (blk_cell BKg5.out 2).trans rfl; have hfg5_2 := blk_frozen BKg5.out 2
      have hcg5_3 : wr.cell? ⟨g5, 3, none⟩ = some (.int .i64 ((cdig q) 2)) := (blk_cell BKg5.out 3).trans rfl; have hfg5_3 := blk_frozen BKg5.out 3
      have hcg5_4 : wr.cell? ⟨g5, 4, none⟩ = some (.int .i64 ((cdig q) 3)) := (blk_cell BKg5.out 4).trans rfl; have hfg5_4 := blk_frozen BKg5.out 4
      have hcg5_5 : wr.cell? ⟨g5, 5, none⟩ = some (.int .i64 ((cdig q) 4)) := (blk_cell BKg5.out 5).trans rfl; have hfg5_5 := blk_frozen BKg5.out 5
      have hcg5_6 : wr.cell? ⟨g5, 6, none⟩ = some (.int .i64 ((cdig q) 5)) := (blk_cell BKg5.out 6).trans rfl; have hfg5_6 := blk_frozen BKg5.out 6
      have hcg5_7 : wr.cell? ⟨g5, 7, none⟩ = some (.int .i64 ((cdig q) 6)) := (blk_cell BKg5.out 7).trans rfl; have hfg5_7 := blk_frozen BKg5.out 7
      have hcg5_8 : wr.cell? ⟨g5, 8, none⟩ = some (.int .i64 ((cdig q) 7)) := (blk_cell BKg5.out 8).trans rfl; have hfg5_8 := blk_frozen BKg5.out 8
      have hcg2_0 : wr.cell? ⟨g2, 0, none⟩ = some (.bool ma) := (blk_cell BKg2.out 0).trans rfl; have hfg2_0 := blk_frozen BKg2.out 0
      have hcg2_1 : wr.cell? ⟨g2, 1, none⟩ = some (.int .i64 ((cdig A) 0)) := (blk_cell BKg2.out 1).trans rfl; have hfg2_1 := blk_frozen BKg2.out 1
      have hcg2_2 : wr.cell? ⟨g2, 2, none⟩ = some (.int .i64 ((cdig A) 1)) := (blk_cell BKg2.out 2).trans rfl; have hfg2_2 := blk_frozen BKg2.out 2
      have hcg2_3 : wr.cell? ⟨g2, 3, none⟩ = some (.int .i64 ((cdig A) 2)) := (blk_cell BKg2.out 3).trans rfl; have hfg2_3 := blk_frozen BKg2.out 3
      have hcg2_4 : wr.cell? ⟨g2, 4, none⟩ = some (.int .i64 ((cdig A) 3)) := (blk_cell BKg2.out 4).trans rfl; have hfg2_4 := blk_frozen BKg2.out 4
      have hcg2_5 : wr.cell? ⟨g2, 5, none⟩ = some (.int .i64 ((cdig A) 4)) := (blk_cell BKg2.out 5).trans rfl; have hfg2_5 := blk_frozen BKg2.out 5
      have hcg2_6 : wr.cell? ⟨g2, 6, none⟩ = some (.int .i64 ((cdig A) 5)) := (blk_cell BKg2.out 6).trans rfl; have hfg2_6 := blk_frozen BKg2.out 6
      have hcg2_7 : wr.cell? ⟨g2, 7, none⟩ = some (.int .i64 ((cdig A) 6)) := (blk_cell BKg2.out 7).trans rfl; have hfg2_7 := blk_frozen BKg2.out 7
      have hcg2_8 : wr.cell? ⟨g2, 8, none⟩ = some (.int .i64 ((cdig A) 7)) := (blk_cell BKg2.out 8).trans rfl; have hfg2_8 := blk_frozen BKg2.out 8
      have hcg3_0 : wr.cell? ⟨g3, 0, none⟩ = some (.bool mb) := (blk_cell BKg3.out 0).trans rfl; have hfg3_0 := blk_frozen BKg3.out 0
      have hcg3_1 : wr.cell? ⟨g3, 1, none⟩ = some (.int .i64 ((cdig B) 0)) := (blk_cell BKg3.out 1).trans rfl; have hfg3_1 := blk_frozen BKg3.out 1
      have hcg3_2 : wr.cell? ⟨g3, 2, none⟩ = some (.int .i64 ((cdig B) 1)) := (blk_cell BKg3.out 2).trans rfl; have hfg3_2 := blk_frozen BKg3.out 2
      have hcg3_3 : wr.cell? ⟨g3, 3, none⟩ = some (.int .i64 ((cdig B) 2)) := (blk_cell BKg3.out 3).trans rfl; have hfg3_3 := blk_frozen BKg3.out 3
      have hcg3_4 : wr.cell? ⟨g3, 4, none⟩ = some (.int .i64 ((cdig B) 3)) := (blk_cell BKg3.out 4).trans rfl; have hfg3_4 := blk_frozen BKg3.out 4
      have hcg3_5 : wr.cell? ⟨g3, 5, none⟩ = some (.int .i64 ((cdig B) 4)) := (blk_cell BKg3.out 5).trans rfl; have hfg3_5 := blk_frozen BKg3.out 5
      have hcg3_6 : wr.cell? ⟨g3, 6, none⟩ = some (.int .i64 ((cdig B) 5)) := (blk_cell BKg3.out 6).trans rfl; have hfg3_6 := blk_frozen BKg3.out 6
      have hcg3_7 : wr.cell? ⟨g3, 7, none⟩ = some (.int .i64 ((cdig B) 6)) := (blk_cell BKg3.out 7).trans rfl; have hfg3_7 := blk_frozen BKg3.out 7
      have hcg3_8 : wr.cell? ⟨g3, 8, none⟩ = some (.int .i64 ((cdig B) 7)) := (blk_cell BKg3.out 8).trans rfl; have hfg3_8 := blk_frozen BKg3.out 8
      have hcg4_0 : wr.cell? ⟨g4, 0, none⟩ = some (.bool false) := (blk_cell BKg4.out 0).trans rfl; have hfg4_0 := blk_frozen BKg4.out 0
      have hcg4_1 : wr.cell? ⟨g4, 1, none⟩ = some (.int .i64 0) := (blk_cell BKg4.out 1).trans rfl; have hfg4_1 := blk_frozen BKg4.out 1
      have hcg4_2 : wr.cell? ⟨g4, 2, none⟩ = some (.int .i64 0) := (blk_cell BKg4.out 2).trans rfl; have hfg4_2 := blk_frozen BKg4.out 2
      have hcg4_3 : wr.cell? ⟨g4, 3, none⟩ = some (.int .i64 0) := (blk_cell BKg4.out 3).trans rfl; have hfg4_3 := blk_frozen BKg4.out 3
      have hcg4_4 : wr.cell? ⟨g4, 4, none⟩ = some (.int .i64 0) := (blk_cell BKg4.out 4).trans rfl; have hfg4_4 := blk_frozen BKg4.out 4
      have hcg4_5 : wr.cell? ⟨g4, 5, none⟩ = some (.int .i64 0) := (blk_cell BKg4.out 5).trans rfl; have hfg4_5 := blk_frozen BKg4.out 5
      have hcg4_6 : wr.cell? ⟨g4, 6, none⟩ = some (.int .i64 0) := (blk_cell BKg4.out 6).trans rfl; have hfg4_6 := blk_frozen BKg4.out 6
      have hcg4_7 : wr.cell? ⟨g4, 7, none⟩ = some (.int .i64 0) := (blk_cell BKg4.out 7).trans rfl; have hfg4_7 := blk_frozen BKg4.out 7
      have hcg4_8 : wr.cell? ⟨g4, 8, none⟩ = some (.int .i64 0) := (blk_cell BKg4.out 8).trans rfl; have hfg4_8 := blk_frozen BKg4.out 8
      go_wp2
      obtain ⟨b01, hb01⟩ : ∃ b, b = A / 2 ^ k % 2 := ⟨_, rfl⟩
      have hrr : Rep (cdig r) r := rep_cdig HR.out.r0 (by have := HR.out.rB; omega)
      have hb0 : 0 ≤ b01 := by omega
      have hb1 : b01 ≤ 1 := by omega
      have hbb : 2 * r + b01 < 340282366920938463463374607431768211456 := by have := HR.out.rB; omega
      have xa : Go.bits .and .i64 (y / 2 ^ e) 1 = b01 := by rw [and_one, HY.out, HD.out, HE.out, bit_of, hb01]
      have HB01 := Lib.hid hb01; clear hb01
      obtain ⟨x, hx⟩ : ∃ x, x = 2 * r + b01 := ⟨_, rfl⟩
      have HX := Lib.hid hx; clear hx
      go_region_with (first | (go_at_call 64; (with_reducible refine (double_ex false r b01 x _ hrr hb0 hb1 hbb HX.out).mono ?_); rintro e_ W_ ⟨rfl, hb_⟩; clear c2; have n_ := Aside0.mk (blk_below (g := g6) (show _ from by first | exact BKg6.out | exact blk_drew BKg6.out) hb_); clear BKg6; have BKg6 := n_; clear n_; have n_ := Aside0.mk (blk_below (g := g5) (show _ from by first | exact BKg5.out | exact blk_drew BKg5.out) hb_); clear BKg5; have BKg5 := n_; clear n_; have n_ := Aside0.mk (blk_below (g := g2) (show _ from by first | exact BKg2.out | exact blk_drew BKg2.out) hb_); clear BKg2; have BKg2 := n_; clear n_; have n_ := Aside0.mk (blk_below (g := g3) (show _ from by first | exact BKg3.out | exact blk_drew BKg3.out) hb_); clear BKg3; have BKg3 := n_; clear n_; have n_ := Aside0.mk (blk_below (g := g4) (show _ from by first | exact BKg4.out | exact blk_drew BKg4.out) hb_); clear BKg4; have BKg4 := n_; clear n_; have n_ := Aside0.mk (below_step (by first | exact HB.out | exact below_drew1 HB.out) hb_); clear HB; have HB := n_; clear n_; clear hb_; clear hcg6_0 hfg6_0; clear hcg6_1 hfg6_1; clear hcg6_2 hfg6_2; clear hcg6_3 hfg6_3; clear hcg6_4 hfg6_4; clear hcg6_5 hfg6_5; clear hcg6_6 hfg6_6; clear hcg6_7 hfg6_7; clear hcg6_8 hfg6_8; clear hcg5_0 hfg5_0; clear hcg5_1 hfg5_1; clear hcg5_2 hfg5_2; clear hcg5_3 hfg5_3; clear hcg5_4 hfg5_4; clear hcg5_5 hfg5_5; clear hcg5_6 hfg5_6; clear hcg5_7 hfg5_7; clear hcg5_8 hfg5_8; clear hcg2_0 hfg2_0; clear hcg2_1 hfg2_1; clear hcg2_2 hfg2_2; clear hcg2_3 hfg2_3; clear hcg2_4 hfg2_4; clear hcg2_5 hfg2_5; clear hcg2_6 hfg2_6; clear hcg2_7 hfg2_7; clear hcg2_8 hfg2_8; clear hcg3_0 hfg3_0; clear hcg3_1 hfg3_1; clear hcg3_2 hfg3_2; clear hcg3_3 hfg3_3; clear hcg3_4 hfg3_4; clear hcg3_5 hfg3_5; clear hcg3_6 hfg3_6; clear hcg3_7 hfg3_7; clear hcg3_8 hfg3_8; clear hcg4_0 hfg4_0; clear hcg4_1 hfg4_1; clear hcg4_2 hfg4_2; clear hcg4_3 hfg4_3; clear hcg4_4 hfg4_4; clear hcg4_5 hfg4_5; clear hcg4_6 hfg4_6; clear hcg4_7 hfg4_7; clear hcg4_8 hfg4_8; have hcg6_0 : W_.cell? ⟨g6, 0, none⟩ = some (.bool false) := (blk_cell BKg6.out 0).trans rfl; have hfg6_0 := blk_frozen BKg6.out 0; have hcg6_1 : W_.cell? ⟨g6, 1, none⟩ = some (.int .i64 ((cdig r) 0)) := (blk_cell BKg6.out 1).trans rfl; have hfg6_1 := blk_frozen BKg6.out 1; have hcg6_2 : W_.cell? ⟨g6, 2, none⟩ = some (.int .i64 ((cdig r) 1)) := (blk_cell BKg6.out 2).trans rfl; have hfg6_2 := blk_frozen BKg6.out 2; have hcg6_3 : W_.cell? ⟨g6, 3, none⟩ = some (.int .i64 ((cdig r) 2)) := (blk_cell BKg6.out 3).trans rfl; have hfg6_3 := blk_frozen BKg6.out 3; have hcg6_4 : W_.cell? ⟨g6, 4, none⟩ = some (.int .i64 ((cdig r) 3)) := (blk_cell BKg6.out 4).trans rfl; have hfg6_4 := blk_frozen BKg6.out 4; have hcg6_5 : W_.cell? ⟨g6, 5, none⟩ = some (.int .i64 ((cdig r) 4)) := (blk_cell BKg6.out 5).trans rfl; have hfg6_5 := blk_frozen BKg6.out 5; have hcg6_6 : W_.cell? ⟨g6, 6, none⟩ = some (.int .i64 ((cdig r) 5)) := (blk_cell BKg6.out 6).trans rfl; have hfg6_6 := blk_frozen BKg6.out 6; have hcg6_7 : W_.cell? ⟨g6, 7, none⟩ = some (.int .i64 ((cdig r) 6)) := (blk_cell BKg6.out 7).trans rfl; have hfg6_7 := blk_frozen BKg6.out 7; have hcg6_8 : W_.cell? ⟨g6, 8, none⟩ = some (.int .i64 ((cdig r) 7)) := (blk_cell BKg6.out 8).trans rfl; have hfg6_8 := blk_frozen BKg6.out 8; have hcg5_0 : W_.cell? ⟨g5, 0, none⟩ = some (.bool (!(ma == mb))) := (blk_cell BKg5.out 0).trans rfl; have hfg5_0 := blk_frozen BKg5.out 0; have hcg5_1 : W_.cell? ⟨g5, 1, none⟩ = some (.int .i64 ((cdig q) 0)) := (blk_cell BKg5.out 1).trans rfl; have hfg5_1 := blk_frozen BKg5.out 1; have hcg5_2 : W_.cell? ⟨g5, 2, none⟩ = some (.int .i64 ((cdig q) 1)) := (blk_cell BKg5.out 2).trans rfl; have hfg5_2 := blk_frozen BKg5.out 2; have hcg5_3 : W_.cell? ⟨g5, 3, none⟩ = some (.int .i64 ((cdig q) 2)) := (blk_cell BKg5.out 3).trans rfl; have hfg5_3 := blk_frozen BKg5.out 3; have hcg5_4 : W_.cell? ⟨g5, 4, none⟩ = some (.int .i64 ((cdig q) 3)) := (blk_cell BKg5.out 4).trans rfl; have hfg5_4 := blk_frozen BKg5.out 4; have hcg5_5 : W_.cell? ⟨g5, 5, none⟩ = some (.int .i64 ((cdig q) 4)) := (blk_cell BKg5.out 5).trans rfl; have hfg5_5 := blk_frozen BKg5.out 5; have hcg5_6 : W_.cell? ⟨g5, 6, none⟩ = some (.int .i64 ((cdig q) 5)) := (blk_cell BKg5.out 6).trans rfl; have hfg5_6 := blk_frozen BKg5.out 6; have hcg5_7 : W_.cell? ⟨g5, 7, none⟩ = some (.int .i64 ((cdig q) 6)) := (blk_cell BKg5.out 7).trans rfl; have hfg5_7 := blk_frozen BKg5.out 7; have hcg5_8 : W_.cell? ⟨g5, 8, none⟩ = some (.int .i64 ((cdig q) 7)) := (blk_cell BKg5.out 8).trans rfl; have hfg5_8 := blk_frozen BKg5.out 8; have hcg2_0 : W_.cell? ⟨g2, 0, none⟩ = some (.bool ma) := (blk_cell BKg2.out 0).trans rfl; have hfg2_0 := blk_frozen BKg2.out 0; have hcg2_1 : W_.cell? ⟨g2, 1, none⟩ = some (.int .i64 ((cdig A) 0)) := (blk_cell BKg2.out 1).trans rfl; have hfg2_1 := blk_frozen BKg2.out 1; have hcg2_2 : W_.cell? ⟨g2, 2, none⟩ = some (.int .i64 ((cdig A) 1)) := (blk_cell BKg2.out 2).trans rfl; have hfg2_2 := blk_frozen BKg2.out 2; have hcg2_3 : W_.cell? ⟨g2, 3, none⟩ = some (.int .i64 ((cdig A) 2)) := (blk_cell BKg2.out 3).trans rfl; have hfg2_3 := blk_frozen BKg2.out 3; have hcg2_4 : W_.cell? ⟨g2, 4, none⟩ = some (.int .i64 ((cdig A) 3)) := (blk_cell BKg2.out 4).trans rfl; have hfg2_4 := blk_frozen BKg2.out 4; have hcg2_5 : W_.cell? ⟨g2, 5, none⟩ = some (.int .i64 ((cdig A) 4)) := (blk_cell BKg2.out 5).trans rfl; have hfg2_5 := blk_frozen BKg2.out 5; have hcg2_6 : W_.cell? ⟨g2, 6, none⟩ = some (.int .i64 ((cdig A) 5)) := (blk_cell BKg2.out 6).trans rfl; have hfg2_6 := blk_frozen BKg2.out 6; have hcg2_7 : W_.cell? ⟨g2, 7, none⟩ = some (.int .i64 ((cdig A) 6)) := (blk_cell BKg2.out 7).trans rfl; have hfg2_7 := blk_frozen BKg2.out 7; have hcg2_8 : W_.cell? ⟨g2, 8, none⟩ = some (.int .i64 ((cdig A) 7)) := (blk_cell BKg2.out 8).trans rfl; have hfg2_8 := blk_frozen BKg2.out 8; have hcg3_0 : W_.cell? ⟨g3, 0, none⟩ = some (.bool mb) := (blk_cell BKg3.out 0).trans rfl; have hfg3_0 := blk_frozen BKg3.out 0; have hcg3_1 : W_.cell? ⟨g3, 1, none⟩ = some (.int .i64 ((cdig B) 0)) := (blk_cell BKg3.out 1).trans rfl; have hfg3_1 := blk_frozen BKg3.out 1; have hcg3_2 : W_.cell? ⟨g3, 2, none⟩ = some (.int .i64 ((cdig B) 1)) := (blk_cell BKg3.out 2).trans rfl; have hfg3_2 := blk_frozen BKg3.out 2; have hcg3_3 : W_.cell? ⟨g3, 3, none⟩ = some (.int .i64 ((cdig B) 2)) := (blk_cell BKg3.out 3).trans rfl; have hfg3_3 := blk_frozen BKg3.out 3; have hcg3_4 : W_.cell? ⟨g3, 4, none⟩ = some (.int .i64 ((cdig B) 3)) := (blk_cell BKg3.out 4).trans rfl; have hfg3_4 := blk_frozen BKg3.out 4; have hcg3_5 : W_.cell? ⟨g3, 5, none⟩ = some (.int .i64 ((cdig B) 4)) := (blk_cell BKg3.out 5).trans rfl; have hfg3_5 := blk_frozen BKg3.out 5; have hcg3_6 : W_.cell? ⟨g3, 6, none⟩ = some (.int .i64 ((cdig B) 5)) := (blk_cell BKg3.out 6).trans rfl; have hfg3_6 := blk_frozen BKg3.out 6; have hcg3_7 : W_.cell? ⟨g3, 7, none⟩ = some (.int .i64 ((cdig B) 6)) := (blk_cell BKg3.out 7).trans rfl; have hfg3_7 := blk_frozen BKg3.out 7; have hcg3_8 : W_.cell? ⟨g3, 8, none⟩ = some (.int .i64 ((cdig B) 7)) := (blk_cell BKg3.out 8).trans rfl; have hfg3_8 := blk_frozen BKg3.out 8; have hcg4_0 : W_.cell? ⟨g4, 0, none⟩ = some (.bool false) := (blk_cell BKg4.out 0).trans rfl; have hfg4_0 := blk_frozen BKg4.out 0; have hcg4_1 : W_.cell? ⟨g4, 1, none⟩ = some (.int .i64 0) := (blk_cell BKg4.out 1).trans rfl; have hfg4_1 := blk_frozen BKg4.out 1; have hcg4_2 : W_.cell? ⟨g4, 2, none⟩ = some (.int .i64 0) := (blk_cell BKg4.out 2).trans rfl; have hfg4_2 := blk_frozen BKg4.out 2; have hcg4_3 : W_.cell? ⟨g4, 3, none⟩ = some (.int .i64 0) := (blk_cell BKg4.out 3).trans rfl; have hfg4_3 := blk_frozen BKg4.out 3; have hcg4_4 : W_.cell? ⟨g4, 4, none⟩ = some (.int .i64 0) := (blk_cell BKg4.out 4).trans rfl; have hfg4_4 := blk_frozen BKg4.out 4; have hcg4_5 : W_.cell? ⟨g4, 5, none⟩ = some (.int .i64 0) := (blk_cell BKg4.out 5).trans rfl; have hfg4_5 := blk_frozen BKg4.out 5; have hcg4_6 : W_.cell? ⟨g4, 6, none⟩ = some (.int .i64 0) := (blk_cell BKg4.out 6).trans rfl; have hfg4_6 := blk_frozen BKg4.out 6; have hcg4_7 : W_.cell? ⟨g4, 7, none⟩ = some (.int .i64 0) := (blk_cell BKg4.out 7).trans rfl; have hfg4_7 := blk_frozen BKg4.out 7; have hcg4_8 : W_.cell? ⟨g4, 8, none⟩ = some (.int .i64 0) := (blk_cell BKg4.out 8).trans rfl; have hfg4_8 := blk_frozen BKg4.out 8; have c2 : W_.cell? ⟨g2, 1 + d, none⟩ = some (.int .i64 y) := (blk_cell BKg2.out (1 + d)).trans ((big_get ma (cdig A) hd8).trans (by rw [HY.out]))))
      all_goals
        clear c2
        have n_ : Aside0 ((((((((((W_.setCell ⟨g6, 0, none⟩ (.bool false)).setCell ⟨g6, 1, none⟩ (.int .i64 ((cdig x) 0))).setCell ⟨g6, 2, none⟩ (.int .i64 ((cdig x) 1))).setCell ⟨g6, 3, none⟩ (.int .i64 ((cdig x) 2))).setCell ⟨g6, 4, none⟩ (.int .i64 ((cdig x) 3))).setCell ⟨g6, 5, none⟩ (.int .i64 ((cdig x) 4))).setCell ⟨g6, 6, none⟩ (.int .i64 ((cdig x) 5))).setCell ⟨g6, 7, none⟩ (.int .i64 ((cdig x) 6))).setCell ⟨g6, 8, none⟩ (.int .i64 ((cdig x) 7))).heap[g6]? = some (.cells #[.bool false, .int .i64 ((cdig x) 0), .int .i64 ((cdig x) 1), .int .i64 ((cdig x) 2), .int .i64 ((cdig x) 3), .int .i64 ((cdig x) 4), .int .i64 ((cdig x) 5), .int .i64 ((cdig x) 6), .int .i64 ((cdig x) 7)] 60 (0, 0))) := ⟨by refine blk_put (cs := #[.bool false, .int .i64 ((cdig x) 0), .int .i64 ((cdig x) 1), .int .i64 ((cdig x) 2), .int .i64 ((cdig x) 3), .int .i64 ((cdig x) 4), .int .i64 ((cdig x) 5), .int .i64 ((cdig x) 6), .int .i64 ((cdig r) 7)]) ?_ 8 _ rfl; refine blk_put (cs := #[.bool false, .int .i64 ((cdig x) 0), .int .i64 ((cdig x) 1), .int .i64 ((cdig x) 2), .int .i64 ((cdig x) 3), .int .i64 ((cdig x) 4), .int .i64 ((cdig x) 5), .int .i64 ((cdig r) 6), .int .i64 ((cdig r) 7)]) ?_ 7 _ rfl; refine blk_put (cs := #[.bool false, .int .i64 ((cdig x) 0), .int .i64 ((cdig x) 1), .int .i64 ((cdig x) 2), .int .i64 ((cdig x) 3), .int .i64 ((cdig x) 4), .int .i64 ((cdig r) 5), .int .i64 ((cdig r) 6), .int .i64 ((cdig r) 7)]) ?_ 6 _ rfl; refine blk_put (cs := #[.bool false, .int .i64 ((cdig x) 0), .int .i64 ((cdig x) 1), .int .i64 ((cdig x) 2), .int .i64 ((cdig x) 3), .int .i64 ((cdig r) 4), .int .i64 ((cdig r) 5), .int .i64 ((cdig r) 6), .int .i64 ((cdig r) 7)]) ?_ 5 _ rfl; refine blk_put (cs := #[.bool false, .int .i64 ((cdig x) 0), .int .i64 ((cdig x) 1), .int .i64 ((cdig x) 2), .int .i64 ((cdig r) 3), .int .i64 ((cdig r) 4), .int .i64 ((cdig r) 5), .int .i64 ((cdig r) 6), .int .i64 ((cdig r) 7)]) ?_ 4 _ rfl; refine blk_put (cs := #[.bool false, .int .i64 ((cdig x) 0), .int .i64 ((cdig x) 1), .int .i64 ((cdig r) 2), .int .i64 ((cdig r) 3), .int .i64 ((cdig r) 4), .int .i64 ((cdig r) 5), .int .i64 ((cdig r) 6), .int .i64 ((cdig r) 7)]) ?_ 3 _ rfl; refine blk_put (cs := #[.bool false, .int .i64 ((cdig x) 0), .int .i64 ((cdig r) 1), .int .i64 ((cdig r) 2), .int .i64 ((cdig r) 3), .int .i64 ((cdig r) 4), .int .i64 ((cdig r) 5), .int .i64 ((cdig r) 6), .int .i64 ((cdig r) 7)]) ?_ 2 _ rfl; refine blk_put (cs := #[.bool false, .int .i64 ((cdig r) 0), .int .i64 ((cdig r) 1), .int .i64 ((cdig r) 2), .int .i64 ((cdig r) 3), .int .i64 ((cdig r) 4), .int .i64 ((cdig r) 5), .int .i64 ((cdig r) 6), .int .i64 ((cdig r) 7)]) ?_ 1 _ rfl; refine blk_put (cs := #[.bool false, .int .i64 ((cdig r) 0), .int .i64 ((cdig r) 1), .int .i64 ((cdig r) 2), .int .i64 ((cdig r) 3), .int .i64 ((cdig r) 4), .int .i64 ((cdig r) 5), .int .i64 ((cdig r) 6), .int .i64 ((cdig r) 7)]) ?_ 0 _ rfl; exact BKg6.out⟩
        have m_ : Aside0 ((((((((((W_.setCell ⟨g6, 0, none⟩ (.bool false)).setCell ⟨g6, 1, none⟩ (.int .i64 ((cdig x) 0))).setCell ⟨g6, 2, none⟩ (.int .i64 ((cdig x) 1))).setCell ⟨g6, 3, none⟩ (.int .i64 ((cdig x) 2))).setCell ⟨g6, 4, none⟩ (.int .i64 ((cdig x) 3))).setCell ⟨g6, 5, none⟩ (.int .i64 ((cdig x) 4))).setCell ⟨g6, 6, none⟩ (.int .i64 ((cdig x) 5))).setCell ⟨g6, 7, none⟩ (.int .i64 ((cdig x) 6))).setCell ⟨g6, 8, none⟩ (.int .i64 ((cdig x) 7))).heap[g5]? = some (.cells (bigA (!(ma == mb)) (cdig q)) 60 (0, 0))) := ⟨(blk_far (blk_far (blk_far (blk_far (blk_far (blk_far (blk_far (blk_far (blk_far BKg5.out NBg5_g6 _) NBg5_g6 _) NBg5_g6 _) NBg5_g6 _) NBg5_g6 _) NBg5_g6 _) NBg5_g6 _) NBg5_g6 _) NBg5_g6 _)⟩
        clear BKg5; have BKg5 := m_; clear m_
        have m_ : Aside0 ((((((((((W_.setCell ⟨g6, 0, none⟩ (.bool false)).setCell ⟨g6, 1, none⟩ (.int .i64 ((cdig x) 0))).setCell ⟨g6, 2, none⟩ (.int .i64 ((cdig x) 1))).setCell ⟨g6, 3, none⟩ (.int .i64 ((cdig x) 2))).setCell ⟨g6, 4, none⟩ (.int .i64 ((cdig x) 3))).setCell ⟨g6, 5, none⟩ (.int .i64 ((cdig x) 4))).setCell ⟨g6, 6, none⟩ (.int .i64 ((cdig x) 5))).setCell ⟨g6, 7, none⟩ (.int .i64 ((cdig x) 6))).setCell ⟨g6, 8, none⟩ (.int .i64 ((cdig x) 7))).heap[g2]? = some (.cells (bigA ma (cdig A)) 60 (0, 0))) := ⟨(blk_far (blk_far (blk_far (blk_far (blk_far (blk_far (blk_far (blk_far (blk_far BKg2.out NBg2_g6 _) NBg2_g6 _) NBg2_g6 _) NBg2_g6 _) NBg2_g6 _) NBg2_g6 _) NBg2_g6 _) NBg2_g6 _) NBg2_g6 _)⟩
        clear BKg2; have BKg2 := m_; clear m_
        have m_ : Aside0 ((((((((((W_.setCell ⟨g6, 0, none⟩ (.bool false)).setCell ⟨g6, 1, none⟩ (.int .i64 ((cdig x) 0))).setCell ⟨g6, 2, none⟩ (.int .i64 ((cdig x) 1))).setCell ⟨g6, 3, none⟩ (.int .i64 ((cdig x) 2))).setCell ⟨g6, 4, none⟩ (.int .i64 ((cdig x) 3))).setCell ⟨g6, 5, none⟩ (.int .i64 ((cdig x) 4))).setCell ⟨g6, 6, none⟩ (.int .i64 ((cdig x) 5))).setCell ⟨g6, 7, none⟩ (.int .i64 ((cdig x) 6))).setCell ⟨g6, 8, none⟩ (.int .i64 ((cdig x) 7))).heap[g3]? = some (.cells (bigA mb (cdig B)) 60 (0, 0))) := ⟨(blk_far (blk_far (blk_far (blk_far (blk_far (blk_far (blk_far (blk_far (blk_far BKg3.out NBg3_g6 _) NBg3_g6 _) NBg3_g6 _) NBg3_g6 _) NBg3_g6 _) NBg3_g6 _) NBg3_g6 _) NBg3_g6 _) NBg3_g6 _)⟩
        clear BKg3; have BKg3 := m_; clear m_
        have m_ : Aside0 ((((((((((W_.setCell ⟨g6, 0, none⟩ (.bool false)).setCell ⟨g6, 1, none⟩ (.int .i64 ((cdig x) 0))).setCell ⟨g6, 2, none⟩ (.int .i64 ((cdig x) 1))).setCell ⟨g6, 3, none⟩ (.int .i64 ((cdig x) 2))).setCell ⟨g6, 4, none⟩ (.int .i64 ((cdig x) 3))).setCell ⟨g6, 5, none⟩ (.int .i64 ((cdig x) 4))).setCell ⟨g6, 6, none⟩ (.int .i64 ((cdig x) 5))).setCell ⟨g6, 7, none⟩ (.int .i64 ((cdig x) 6))).setCell ⟨g6, 8, none⟩ (.int .i64 ((cdig x) 7))).heap[g4]? = some (.cells #[.bool false, .int .i64 0, .int .i64 0, .int .i64 0, .int .i64 0, .int .i64 0, .int .i64 0, .int .i64 0, .int .i64 0] 60 (0, 0))) := ⟨(blk_far (blk_far (blk_far (blk_far (blk_far (blk_far (blk_far (blk_far (blk_far BKg4.out NBg4_g6 _) NBg4_g6 _) NBg4_g6 _) NBg4_g6 _) NBg4_g6 _) NBg4_g6 _) NBg4_g6 _) NBg4_g6 _) NBg4_g6 _)⟩
        clear BKg4; have BKg4 := m_; clear m_
        have b_ : Aside0 (Below w.heap.size w (((((((((W_.setCell ⟨g6, 0, none⟩ (.bool false)).setCell ⟨g6, 1, none⟩ (.int .i64 ((cdig x) 0))).setCell ⟨g6, 2, none⟩ (.int .i64 ((cdig x) 1))).setCell ⟨g6, 3, none⟩ (.int .i64 ((cdig x) 2))).setCell ⟨g6, 4, none⟩ (.int .i64 ((cdig x) 3))).setCell ⟨g6, 5, none⟩ (.int .i64 ((cdig x) 4))).setCell ⟨g6, 6, none⟩ (.int .i64 ((cdig x) 5))).setCell ⟨g6, 7, none⟩ (.int .i64 ((cdig x) 6))).setCell ⟨g6, 8, none⟩ (.int .i64 ((cdig x) 7)))) := ⟨(below_set (below_set (below_set (below_set (below_set (below_set (below_set (below_set (below_set HB.out GEg6.out) GEg6.out) GEg6.out) GEg6.out) GEg6.out) GEg6.out) GEg6.out) GEg6.out) GEg6.out)⟩
        clear BKg6 HB; have BKg6 := n_; have HB := b_; clear n_ b_
        clear hcg6_0 hfg6_0
        clear hcg6_1 hfg6_1
        clear hcg6_2 hfg6_2
        clear hcg6_3 hfg6_3
        clear hcg6_4 hfg6_4
        clear hcg6_5 hfg6_5
        clear hcg6_6 hfg6_6
        clear hcg6_7 hfg6_7
        clear hcg6_8 hfg6_8
        clear hcg5_0 hfg5_0
        clear hcg5_1 hfg5_1
        clear hcg5_2 hfg5_2
        clear hcg5_3 hfg5_3
        clear hcg5_4 hfg5_4
        clear hcg5_5 hfg5_5
        clear hcg5_6 hfg5_6
        clear hcg5_7 hfg5_7
        clear hcg5_8 hfg5_8
        clear hcg2_0 hfg2_0
        clear hcg2_1 hfg2_1
        clear hcg2_2 hfg2_2
        clear hcg2_3 hfg2_3
        clear hcg2_4 hfg2_4
        clear hcg2_5 hfg2_5
        clear hcg2_6 hfg2_6
        clear hcg2_7 hfg2_7
        clear hcg2_8 hfg2_8
        clear hcg3_0 hfg3_0
        clear hcg3_1 hfg3_1
        clear hcg3_2 hfg3_2
        clear hcg3_3 hfg3_3
        clear hcg3_4 hfg3_4
        clear hcg3_5 hfg3_5
        clear hcg3_6 hfg3_6
        clear hcg3_7 hfg3_7
        clear hcg3_8 hfg3_8
        clear hcg4_0 hfg4_0
        clear hcg4_1 hfg4_1
        clear hcg4_2 hfg4_2
        clear hcg4_3 hfg4_3
        clear hcg4_4 hfg4_4
        clear hcg4_5 hfg4_5
        clear hcg4_6 hfg4_6
        clear hcg4_7 hfg4_7
        clear hcg4_8 hfg4_8
        generalize (((((((((W_.setCell ⟨g6, 0, none⟩ (.bool false)).setCell ⟨g6, 1, none⟩ (.int .i64 ((cdig x) 0))).setCell ⟨g6, 2, none⟩ (.int .i64 ((cdig x) 1))).setCell ⟨g6, 3, none⟩ (.int .i64 ((cdig x) 2))).setCell ⟨g6, 4, none⟩ (.int .i64 ((cdig x) 3))).setCell ⟨g6, 5, none⟩ (.int .i64 ((cdig x) 4))).setCell ⟨g6, 6, none⟩ (.int .i64 ((cdig x) 5))).setCell ⟨g6, 7, none⟩ (.int .i64 ((cdig x) 6))).setCell ⟨g6, 8, none⟩ (.int .i64 ((cdig x) 7))) = W7 at *
        have hcg6_0 : W7.cell? ⟨g6, 0, none⟩ = some (.bool false) := (blk_cell BKg6.out 0).trans rfl
        have hfg6_0 := blk_frozen BKg6.out 0
        have hcg6_1 : W7.cell? ⟨g6, 1, none⟩ = some (.int .i64 ((cdig x) 0)) := (blk_cell BKg6.out 1).trans rfl
        have hfg6_1 := blk_frozen BKg6.out 1
        have hcg6_2 : W7.cell? ⟨g6, 2, none⟩ = some (.int .i64 ((cdig x) 1)) := (blk_cell BKg6.out 2).trans rfl
        have hfg6_2 := blk_frozen BKg6.out 2
        have hcg6_3 : W7.cell? ⟨g6, 3, none⟩ = some (.int .i64 ((cdig x) 2)) := (blk_cell BKg6.out 3).trans rfl
        have hfg6_3 := blk_frozen BKg6.out 3
        have hcg6_4 : W7.cell? ⟨g6, 4, none⟩ = some (.int .i64 ((cdig x) 3)) := (blk_cell BKg6.out 4).trans rfl
        have hfg6_4 := blk_frozen BKg6.out 4
        have hcg6_5 : W7.cell? ⟨g6, 5, none⟩ = some (.int .i64 ((cdig x) 4)) := (blk_cell BKg6.out 5).trans rfl
        have hfg6_5 := blk_frozen BKg6.out 5
        have hcg6_6 : W7.cell? ⟨g6, 6, none⟩ = some (.int .i64 ((cdig x) 5)) := (blk_cell BKg6.out 6).trans rfl
        have hfg6_6 := blk_frozen BKg6.out 6
        have hcg6_7 : W7.cell? ⟨g6, 7, none⟩ = some (.int .i64 ((cdig x) 6)) := (blk_cell BKg6.out 7).trans rfl
        have hfg6_7 := blk_frozen BKg6.out 7
        have hcg6_8 : W7.cell? ⟨g6, 8, none⟩ = some (.int .i64 ((cdig x) 7)) := (blk_cell BKg6.out 8).trans rfl
        have hfg6_8 := blk_frozen BKg6.out 8
        have hcg5_0 : W7.cell? ⟨g5, 0, none⟩ = some (.bool (!(ma == mb))) := (blk_cell BKg5.out 0).trans rfl
        have hfg5_0 := blk_frozen BKg5.out 0
        have hcg5_1 : W7.cell? ⟨g5, 1, none⟩ = some (.int .i64 ((cdig q) 0)) := (blk_cell BKg5.out 1).trans rfl
        have hfg5_1 := blk_frozen BKg5.out 1
        have hcg5_2 : W7.cell? ⟨g5, 2, none⟩ = some (.int .i64 ((cdig q) 1)) := (blk_cell BKg5.out 2).trans rfl
        have hfg5_2 := blk_frozen BKg5.out 2
        have hcg5_3 : W7.cell? ⟨g5, 3, none⟩ = some (.int .i64 ((cdig q) 2)) := (blk_cell BKg5.out 3).trans rfl
        have hfg5_3 := blk_frozen BKg5.out 3
        have hcg5_4 : W7.cell? ⟨g5, 4, none⟩ = some (.int .i64 ((cdig q) 3)) := (blk_cell BKg5.out 4).trans rfl
        have hfg5_4 := blk_frozen BKg5.out 4
        have hcg5_5 : W7.cell? ⟨g5, 5, none⟩ = some (.int .i64 ((cdig q) 4)) := (blk_cell BKg5.out 5).trans rfl
        have hfg5_5 := blk_frozen BKg5.out 5
        have hcg5_6 : W7.cell? ⟨g5, 6, none⟩ = some (.int .i64 ((cdig q) 5)) := (blk_cell BKg5.out 6).trans rfl
        have hfg5_6 := blk_frozen BKg5.out 6
        have hcg5_7 : W7.cell? ⟨g5, 7, none⟩ = some (.int .i64 ((cdig q) 6)) := (blk_cell BKg5.out 7).trans rfl
        have hfg5_7 := blk_frozen BKg5.out 7
        have hcg5_8 : W7.cell? ⟨g5, 8, none⟩ = some (.int .i64 ((cdig q) 7)) := (blk_cell BKg5.out 8).trans rfl
        have hfg5_8 := blk_frozen BKg5.out 8
        have hcg2_0 : W7.cell? ⟨g2, 0, none⟩ = some (.bool ma) := (blk_cell BKg2.out 0).trans rfl
        have hfg2_0 := blk_frozen BKg2.out 0
        have hcg2_1 : W7.cell? ⟨g2, 1, none⟩ = some (.int .i64 ((cdig A) 0)) := (blk_cell BKg2.out 1).trans rfl
        have hfg2_1 := blk_frozen BKg2.out 1
        have hcg2_2 : W7.cell? ⟨g2, 2, none⟩ = some (.int .i64 ((cdig A) 1)) := (blk_cell BKg2.out 2).trans rfl
        have hfg2_2 := blk_frozen BKg2.out 2
        have hcg2_3 : W7.cell? ⟨g2, 3, none⟩ = some (.int .i64 ((cdig A) 2)) := (blk_cell BKg2.out 3).trans rfl
        have hfg2_3 := blk_frozen BKg2.out 3
        have hcg2_4 : W7.cell? ⟨g2, 4, none⟩ = some (.int .i64 ((cdig A) 3)) := (blk_cell BKg2.out 4).trans rfl
        have hfg2_4 := blk_frozen BKg2.out 4
        have hcg2_5 : W7.cell? ⟨g2, 5, none⟩ = some (.int .i64 ((cdig A) 4)) := (blk_cell BKg2.out 5).trans rfl
        have hfg2_5 := blk_frozen BKg2.out 5
        have hcg2_6 : W7.cell? ⟨g2, 6, none⟩ = some (.int .i64 ((cdig A) 5)) := (blk_cell BKg2.out 6).trans rfl
        have hfg2_6 := blk_frozen BKg2.out 6
        have hcg2_7 : W7.cell? ⟨g2, 7, none⟩ = some (.int .i64 ((cdig A) 6)) := (blk_cell BKg2.out 7).trans rfl
        have hfg2_7 := blk_frozen BKg2.out 7
        have hcg2_8 : W7.cell? ⟨g2, 8, none⟩ = some (.int .i64 ((cdig A) 7)) := (blk_cell BKg2.out 8).trans rfl
        have hfg2_8 := blk_frozen BKg2.out 8
        have hcg3_0 : W7.cell? ⟨g3, 0, none⟩ = some (.bool mb) := (blk_cell BKg3.out 0).trans rfl
        have hfg3_0 := blk_frozen BKg3.out 0
        have hcg3_1 : W7.cell? ⟨g3, 1, none⟩ = some (.int .i64 ((cdig B) 0)) := (blk_cell BKg3.out 1).trans rfl
        have hfg3_1 := blk_frozen BKg3.out 1
        have hcg3_2 : W7.cell? ⟨g3, 2, none⟩ = some (.int .i64 ((cdig B) 1)) := (blk_cell BKg3.out 2).trans rfl
        have hfg3_2 := blk_frozen BKg3.out 2
        have hcg3_3 : W7.cell? ⟨g3, 3, none⟩ = some (.int .i64 ((cdig B) 2)) := (blk_cell BKg3.out 3).trans rfl
        have hfg3_3 := blk_frozen BKg3.out 3
        have hcg3_4 : W7.cell? ⟨g3, 4, none⟩ = some (.int .i64 ((cdig B) 3)) := (blk_cell BKg3.out 4).trans rfl
        have hfg3_4 := blk_frozen BKg3.out 4
        have hcg3_5 : W7.cell? ⟨g3, 5, none⟩ = some (.int .i64 ((cdig B) 4)) := (blk_cell BKg3.out 5).trans rfl
        have hfg3_5 := blk_frozen BKg3.out 5
        have hcg3_6 : W7.cell? ⟨g3, 6, none⟩ = some (.int .i64 ((cdig B) 5)) := (blk_cell BKg3.out 6).trans rfl
        have hfg3_6 := blk_frozen BKg3.out 6
        have hcg3_7 : W7.cell? ⟨g3, 7, none⟩ = some (.int .i64 ((cdig B) 6)) := (blk_cell BKg3.out 7).trans rfl
        have hfg3_7 := blk_frozen BKg3.out 7
        have hcg3_8 : W7.cell? ⟨g3, 8, none⟩ = some (.int .i64 ((cdig B) 7)) := (blk_cell BKg3.out 8).trans rfl
        have hfg3_8 := blk_frozen BKg3.out 8
        have hcg4_0 : W7.cell? ⟨g4, 0, none⟩ = some (.bool false) := (blk_cell BKg4.out 0).trans rfl
        have hfg4_0 := blk_frozen BKg4.out 0
        have hcg4_1 : W7.cell? ⟨g4, 1, none⟩ = some (.int .i64 0) := (blk_cell BKg4.out 1).trans rfl
        have hfg4_1 := blk_frozen BKg4.out 1
        have hcg4_2 : W7.cell? ⟨g4, 2, none⟩ = some (.int .i64 0) := (blk_cell BKg4.out 2).trans rfl
        have hfg4_2 := blk_frozen BKg4.out 2
        have hcg4_3 : W7.cell? ⟨g4, 3, none⟩ = some (.int .i64 0) := (blk_cell BKg4.out 3).trans rfl
        have hfg4_3 := blk_frozen BKg4.out 3
        have hcg4_4 : W7.cell? ⟨g4, 4, none⟩ = some (.int .i64 0) := (blk_cell BKg4.out 4).trans rfl
        have hfg4_4 := blk_frozen BKg4.out 4
        have hcg4_5 : W7.cell? ⟨g4, 5, none⟩ = some (.int .i64 0) := (blk_cell BKg4.out 5).trans rfl
        have hfg4_5 := blk_frozen BKg4.out 5
        have hcg4_6 : W7.cell? ⟨g4, 6, none⟩ = some (.int .i64 0) := (blk_cell BKg4.out 6).trans rfl
        have hfg4_6 := blk_frozen BKg4.out 6
        have hcg4_7 : W7.cell? ⟨g4, 7, none⟩ = some (.int .i64 0) := (blk_cell BKg4.out 7).trans rfl
        have hfg4_7 := blk_frozen BKg4.out 7
        have hcg4_8 : W7.cell? ⟨g4, 8, none⟩ = some (.int .i64 0) := (blk_cell BKg4.out 8).trans rfl
        have hfg4_8 := blk_frozen BKg4.out 8
        have hx0 : 0 ≤ x := by have := HR.out.r0; have := HX.out; omega
        have hx1 : x < 340282366920938463463374607431768211456 := by have := HX.out; omega
        have hxr : Rep (cdig x) x := rep_cdig hx0 hx1
        by_cases hc : B ≤ x
        ·
          have hd : decide (0 ≤ cmpI x B) = true := by unfold cmpI; rw [if_neg (by omega)]; split <;> rfl
          go_wp2_with fail
          ((with_reducible refine (compare_ex false mb x B _ hxr hb).mono ?_); rintro e_ W8 ⟨rfl, hb_⟩)
          have n_ := Aside0.mk (blk_below BKg6.out hb_); clear BKg6; have BKg6 := n_; clear n_
          clear hcg6_0 hfg6_0
          clear hcg6_1 hfg6_1
          clear hcg6_2 hfg6_2
          clear hcg6_3 hfg6_3
          clear hcg6_4 hfg6_4
          clear hcg6_5 hfg6_5
          clear hcg6_6 hfg6_6
          clear hcg6_7 hfg6_7
          clear hcg6_8 hfg6_8
          have n_ := Aside0.mk (blk_below BKg5.out hb_); clear BKg5; have BKg5 := n_; clear n_
          clear hcg5_0 hfg5_0
          clear hcg5_1 hfg5_1
          clear hcg5_2 hfg5_2
          clear hcg5_3 hfg5_3
          clear hcg5_4 hfg5_4
          clear hcg5_5 hfg5_5
          clear hcg5_6 hfg5_6
          clear hcg5_7 hfg5_7
          clear hcg5_8 hfg5_8
          have n_ := Aside0.mk (blk_below BKg2.out hb_); clear BKg2; have BKg2 := n_; clear n_
          clear hcg2_0 hfg2_0
          clear hcg2_1 hfg2_1
          clear hcg2_2 hfg2_2
          clear hcg2_3 hfg2_3
          clear hcg2_4 hfg2_4
          clear hcg2_5 hfg2_5
          clear hcg2_6 hfg2_6
          clear hcg2_7 hfg2_7
          clear hcg2_8 hfg2_8
          have n_ := Aside0.mk (blk_below BKg3.out hb_); clear BKg3; have BKg3 := n_; clear n_
          clear hcg3_0 hfg3_0
          clear hcg3_1 hfg3_1
          clear hcg3_2 hfg3_2
          clear hcg3_3 hfg3_3
          clear hcg3_4 hfg3_4
          clear hcg3_5 hfg3_5
          clear hcg3_6 hfg3_6
          clear hcg3_7 hfg3_7
          clear hcg3_8 hfg3_8
          have n_ := Aside0.mk (blk_below BKg4.out hb_); clear BKg4; have BKg4 := n_; clear n_
          clear hcg4_0 hfg4_0
          clear hcg4_1 hfg4_1
          clear hcg4_2 hfg4_2
          clear hcg4_3 hfg4_3
          clear hcg4_4 hfg4_4
          clear hcg4_5 hfg4_5
          clear hcg4_6 hfg4_6
          clear hcg4_7 hfg4_7
          clear hcg4_8 hfg4_8
          have n_ := Aside0.mk (below_step HB.out hb_); clear HB; have HB := n_; clear n_
          clear hb_
          have hcg6_0 : W8.cell? ⟨g6, 0, none⟩ = some (.bool false) := (blk_cell BKg6.out 0).trans rfl
          have hfg6_0 := blk_frozen BKg6.out 0
          have hcg6_1 : W8.cell? ⟨g6, 1, none⟩ = some (.int .i64 ((cdig x) 0)) := (blk_cell BKg6.out 1).trans rfl
          have hfg6_1 := blk_frozen BKg6.out 1
          have hcg6_2 : W8.cell? ⟨g6, 2, none⟩ = some (.int .i64 ((cdig x) 1)) := (blk_cell BKg6.out 2).trans rfl
          have hfg6_2 := blk_frozen BKg6.out 2
          have hcg6_3 : W8.cell? ⟨g6, 3, none⟩ = some (.int .i64 ((cdig x) 2)) := (blk_cell BKg6.out 3).trans rfl
          have hfg6_3 := blk_frozen BKg6.out 3
          have hcg6_4 : W8.cell? ⟨g6, 4, none⟩ = some (.int .i64 ((cdig x) 3)) := (blk_cell BKg6.out 4).trans rfl
          have hfg6_4 := blk_frozen BKg6.out 4
          have hcg6_5 : W8.cell? ⟨g6, 5, none⟩ = some (.int .i64 ((cdig x) 4)) := (blk_cell BKg6.out 5).trans rfl
          have hfg6_5 := blk_frozen BKg6.out 5
          have hcg6_6 : W8.cell? ⟨g6, 6, none⟩ = some (.int .i64 ((cdig x) 5)) := (blk_cell BKg6.out 6).trans rfl
          have hfg6_6 := blk_frozen BKg6.out 6
          have hcg6_7 : W8.cell? ⟨g6, 7, none⟩ = some (.int .i64 ((cdig x) 6)) := (blk_cell BKg6.out 7).trans rfl
          have hfg6_7 := blk_frozen BKg6.out 7
          have hcg6_8 : W8.cell? ⟨g6, 8, none⟩ = some (.int .i64 ((cdig x) 7)) := (blk_cell BKg6.out 8).trans rfl
          have hfg6_8 := blk_frozen BKg6.out 8
          have hcg5_0 : W8.cell? ⟨g5, 0, none⟩ = some (.bool (!(ma == mb))) := (blk_cell BKg5.out 0).trans rfl
          have hfg5_0 := blk_frozen BKg5.out 0
          have hcg5_1 : W8.cell? ⟨g5, 1, none⟩ = some (.int .i64 ((cdig q) 0)) := (blk_cell BKg5.out 1).trans rfl
          have hfg5_1 := blk_frozen BKg5.out 1
          have hcg5_2 : W8.cell? ⟨g5, 2, none⟩ = some (.int .i64 ((cdig q) 1)) := (blk_cell BKg5.out 2).trans rfl
          have hfg5_2 := blk_frozen BKg5.out 2
          have hcg5_3 : W8.cell? ⟨g5, 3, none⟩ = some (.int .i64 ((cdig q) 2)) := (blk_cell BKg5.out 3).trans rfl
          have hfg5_3 := blk_frozen BKg5.out 3
          have hcg5_4 : W8.cell? ⟨g5, 4, none⟩ = some (.int .i64 ((cdig q) 3)) := (blk_cell BKg5.out 4).trans rfl
          have hfg5_4 := blk_frozen BKg5.out 4
          have hcg5_5 : W8.cell? ⟨g5, 5, none⟩ = some (.int .i64 ((cdig q) 4)) := (blk_cell BKg5.out 5).trans rfl
          have hfg5_5 := blk_frozen BKg5.out 5
          have hcg5_6 : W8.cell? ⟨g5, 6, none⟩ = some (.int .i64 ((cdig q) 5)) := (blk_cell BKg5.out 6).trans rfl
          have hfg5_6 := blk_frozen BKg5.out 6
          have hcg5_7 : W8.cell? ⟨g5, 7, none⟩ = some (.int .i64 ((cdig q) 6)) := (blk_cell BKg5.out 7).trans rfl
          have hfg5_7 := blk_frozen BKg5.out 7
          have hcg5_8 : W8.cell? ⟨g5, 8, none⟩ = some (.int .i64 ((cdig q) 7)) := (blk_cell BKg5.out 8).trans rfl
          have hfg5_8 := blk_frozen BKg5.out 8
          have hcg2_0 : W8.cell? ⟨g2, 0, none⟩ = some (.bool ma) := (blk_cell BKg2.out 0).trans rfl
          have hfg2_0 := blk_frozen BKg2.out 0
          have hcg2_1 : W8.cell? ⟨g2, 1, none⟩ = some (.int .i64 ((cdig A) 0)) := (blk_cell BKg2.out 1).trans rfl
          have hfg2_1 := blk_frozen BKg2.out 1
          have hcg2_2 : W8.cell? ⟨g2, 2, none⟩ = some (.int .i64 ((cdig A) 1)) := (blk_cell BKg2.out 2).trans rfl
          have hfg2_2 := blk_frozen BKg2.out 2
          have hcg2_3 : W8.cell? ⟨g2, 3, none⟩ = some (.int .i64 ((cdig A) 2)) := (blk_cell BKg2.out 3).trans rfl
          have hfg2_3 := blk_frozen BKg2.out 3
          have hcg2_4 : W8.cell? ⟨g2, 4, none⟩ = some (.int .i64 ((cdig A) 3)) := (blk_cell BKg2.out 4).trans rfl
          have hfg2_4 := blk_frozen BKg2.out 4
          have hcg2_5 : W8.cell? ⟨g2, 5, none⟩ = some (.int .i64 ((cdig A) 4)) := (blk_cell BKg2.out 5).trans rfl
          have hfg2_5 := blk_frozen BKg2.out 5
          have hcg2_6 : W8.cell? ⟨g2, 6, none⟩ = some (.int .i64 ((cdig A) 5)) := (blk_cell BKg2.out 6).trans rfl
          have hfg2_6 := blk_frozen BKg2.out 6
          have hcg2_7 : W8.cell? ⟨g2, 7, none⟩ = some (.int .i64 ((cdig A) 6)) := (blk_cell BKg2.out 7).trans rfl
          have hfg2_7 := blk_frozen BKg2.out 7
          have hcg2_8 : W8.cell? ⟨g2, 8, none⟩ = some (.int .i64 ((cdig A) 7)) := (blk_cell BKg2.out 8).trans rfl
          have hfg2_8 := blk_frozen BKg2.out 8
          have hcg3_0 : W8.cell? ⟨g3, 0, none⟩ = some (.bool mb) := (blk_cell BKg3.out 0).trans rfl
          have hfg3_0 := blk_frozen BKg3.out 0
          have hcg3_1 : W8.cell? ⟨g3, 1, none⟩ = some (.int .i64 ((cdig B) 0)) := (blk_cell BKg3.out 1).trans rfl
          have hfg3_1 := blk_frozen BKg3.out 1
          have hcg3_2 : W8.cell? ⟨g3, 2, none⟩ = some (.int .i64 ((cdig B) 1)) := (blk_cell BKg3.out 2).trans rfl
          have hfg3_2 := blk_frozen BKg3.out 2
          have hcg3_3 : W8.cell? ⟨g3, 3, none⟩ = some (.int .i64 ((cdig B) 2)) := (blk_cell BKg3.out 3).trans rfl
          have hfg3_3 := blk_frozen BKg3.out 3
          have hcg3_4 : W8.cell? ⟨g3, 4, none⟩ = some (.int .i64 ((cdig B) 3)) := (blk_cell BKg3.out 4).trans rfl
          have hfg3_4 := blk_frozen BKg3.out 4
          have hcg3_5 : W8.cell? ⟨g3, 5, none⟩ = some (.int .i64 ((cdig B) 4)) := (blk_cell BKg3.out 5).trans rfl
          have hfg3_5 := blk_frozen BKg3.out 5
          have hcg3_6 : W8.cell? ⟨g3, 6, none⟩ = some (.int .i64 ((cdig B) 5)) := (blk_cell BKg3.out 6).trans rfl
          have hfg3_6 := blk_frozen BKg3.out 6
          have hcg3_7 : W8.cell? ⟨g3, 7, none⟩ = some (.int .i64 ((cdig B) 6)) := (blk_cell BKg3.out 7).trans rfl
          have hfg3_7 := blk_frozen BKg3.out 7
          have hcg3_8 : W8.cell? ⟨g3, 8, none⟩ = some (.int .i64 ((cdig B) 7)) := (blk_cell BKg3.out 8).trans rfl
          have hfg3_8 := blk_frozen BKg3.out 8
          have hcg4_0 : W8.cell? ⟨g4, 0, none⟩ = some (.bool false) := (blk_cell BKg4.out 0).trans rfl
          have hfg4_0 := blk_frozen BKg4.out 0
          have hcg4_1 : W8.cell? ⟨g4, 1, none⟩ = some (.int .i64 0) := (blk_cell BKg4.out 1).trans rfl
          have hfg4_1 := blk_frozen BKg4.out 1
          have hcg4_2 : W8.cell? ⟨g4, 2, none⟩ = some (.int .i64 0) := (blk_cell BKg4.out 2).trans rfl
          have hfg4_2 := blk_frozen BKg4.out 2
          have hcg4_3 : W8.cell? ⟨g4, 3, none⟩ = some (.int .i64 0) := (blk_cell BKg4.out 3).trans rfl
          have hfg4_3 := blk_frozen BKg4.out 3
          have hcg4_4 : W8.cell? ⟨g4, 4, none⟩ = some (.int .i64 0) := (blk_cell BKg4.out 4).trans rfl
          have hfg4_4 := blk_frozen BKg4.out 4
          have hcg4_5 : W8.cell? ⟨g4, 5, none⟩ = some (.int .i64 0) := (blk_cell BKg4.out 5).trans rfl
          have hfg4_5 := blk_frozen BKg4.out 5
          have hcg4_6 : W8.cell? ⟨g4, 6, none⟩ = some (.int .i64 0) := (blk_cell BKg4.out 6).trans rfl
          have hfg4_6 := blk_frozen BKg4.out 6
          have hcg4_7 : W8.cell? ⟨g4, 7, none⟩ = some (.int .i64 0) := (blk_cell BKg4.out 7).trans rfl
          have hfg4_7 := blk_frozen BKg4.out 7
          have hcg4_8 : W8.cell? ⟨g4, 8, none⟩ = some (.int .i64 0) := (blk_cell BKg4.out 8).trans rfl
          have hfg4_8 := blk_frozen BKg4.out 8
          go_wp2_with fail
          obtain ⟨z, hz⟩ : ∃ z, z = x - B := ⟨_, rfl⟩
          have HZ := Lib.hid hz; clear hz
          ((with_reducible refine (less_ex false mb x B z _ hxr hb hc HZ.out).mono ?_); rintro e_ W9 ⟨rfl, hb_⟩)
          have n_ := Aside0.mk (blk_below BKg6.out hb_); clear BKg6; have BKg6 := n_; clear n_
          clear hcg6_0 hfg6_0
          clear hcg6_1 hfg6_1
          clear hcg6_2 hfg6_2
          clear hcg6_3 hfg6_3
          clear hcg6_4 hfg6_4
          clear hcg6_5 hfg6_5
          clear hcg6_6 hfg6_6
          clear hcg6_7 hfg6_7
          clear hcg6_8 hfg6_8
          have n_ := Aside0.mk (blk_below BKg5.out hb_); clear BKg5; have BKg5 := n_; clear n_
          clear hcg5_0 hfg5_0
          clear hcg5_1 hfg5_1
          clear hcg5_2 hfg5_2
          clear hcg5_3 hfg5_3
          clear hcg5_4 hfg5_4
          clear hcg5_5 hfg5_5
          clear hcg5_6 hfg5_6
          clear hcg5_7 hfg5_7
          clear hcg5_8 hfg5_8
          have n_ := Aside0.mk (blk_below BKg2.out hb_); clear BKg2; have BKg2 := n_; clear n_
          clear hcg2_0 hfg2_0
          clear hcg2_1 hfg2_1
          clear hcg2_2 hfg2_2
          clear hcg2_3 hfg2_3
          clear hcg2_4 hfg2_4
          clear hcg2_5 hfg2_5
          clear hcg2_6 hfg2_6
          clear hcg2_7 hfg2_7
          clear hcg2_8 hfg2_8
          have n_ := Aside0.mk (blk_below BKg3.out hb_); clear BKg3; have BKg3 := n_; clear n_
          clear hcg3_0 hfg3_0
          clear hcg3_1 hfg3_1
          clear hcg3_2 hfg3_2
          clear hcg3_3 hfg3_3
          clear hcg3_4 hfg3_4
          clear hcg3_5 hfg3_5
          clear hcg3_6 hfg3_6
          clear hcg3_7 hfg3_7
          clear hcg3_8 hfg3_8
          have n_ := Aside0.mk (blk_below BKg4.out hb_); clear BKg4; have BKg4 := n_; clear n_
          clear hcg4_0 hfg4_0
          clear hcg4_1 hfg4_1
          clear hcg4_2 hfg4_2
          clear hcg4_3 hfg4_3
          clear hcg4_4 hfg4_4
          clear hcg4_5 hfg4_5
          clear hcg4_6 hfg4_6
          clear hcg4_7 hfg4_7
          clear hcg4_8 hfg4_8
          have n_ := Aside0.mk (below_step HB.out hb_); clear HB; have HB := n_; clear n_
          clear hb_
          have hcg6_0 : W9.cell? ⟨g6, 0, none⟩ = some (.bool false) := (blk_cell BKg6.out 0).trans rfl
          have hfg6_0 := blk_frozen BKg6.out 0
          have hcg6_1 : W9.cell? ⟨g6, 1, none⟩ = some (.int .i64 ((cdig x) 0)) := (blk_cell BKg6.out 1).trans rfl
          have hfg6_1 := blk_frozen BKg6.out 1
          have hcg6_2 : W9.cell? ⟨g6, 2, none⟩ = some (.int .i64 ((cdig x) 1)) := (blk_cell BKg6.out 2).trans rfl
          have hfg6_2 := blk_frozen BKg6.out 2
          have hcg6_3 : W9.cell? ⟨g6, 3, none⟩ = some (.int .i64 ((cdig x) 2)) := (blk_cell BKg6.out 3).trans rfl
          have hfg6_3 := blk_frozen BKg6.out 3
          have hcg6_4 : W9.cell? ⟨g6, 4, none⟩ = some (.int .i64 ((cdig x) 3)) := (blk_cell BKg6.out 4).trans rfl
          have hfg6_4 := blk_frozen BKg6.out 4
          have hcg6_5 : W9.cell? ⟨g6, 5, none⟩ = some (.int .i64 ((cdig x) 4)) := (blk_cell BKg6.out 5).trans rfl
          have hfg6_5 := blk_frozen BKg6.out 5
          have hcg6_6 : W9.cell? ⟨g6, 6, none⟩ = some (.int .i64 ((cdig x) 5)) := (blk_cell BKg6.out 6).trans rfl
          have hfg6_6 := blk_frozen BKg6.out 6
          have hcg6_7 : W9.cell? ⟨g6, 7, none⟩ = some (.int .i64 ((cdig x) 6)) := (blk_cell BKg6.out 7).trans rfl
          have hfg6_7 := blk_frozen BKg6.out 7
          have hcg6_8 : W9.cell? ⟨g6, 8, none⟩ = some (.int .i64 ((cdig x) 7)) := (blk_cell BKg6.out 8).trans rfl
          have hfg6_8 := blk_frozen BKg6.out 8
          have hcg5_0 : W9.cell? ⟨g5, 0, none⟩ = some (.bool (!(ma == mb))) := (blk_cell BKg5.out 0).trans rfl
          have hfg5_0 := blk_frozen BKg5.out 0
          have hcg5_1 : W9.cell? ⟨g5, 1, none⟩ = some (.int .i64 ((cdig q) 0)) := (blk_cell BKg5.out 1).trans rfl
          have hfg5_1 := blk_frozen BKg5.out 1
          have hcg5_2 : W9.cell? ⟨g5, 2, none⟩ = some (.int .i64 ((cdig q) 1)) := (blk_cell BKg5.out 2).trans rfl
          have hfg5_2 := blk_frozen BKg5.out 2
          have hcg5_3 : W9.cell? ⟨g5, 3, none⟩ = some (.int .i64 ((cdig q) 2)) := (blk_cell BKg5.out 3).trans rfl
          have hfg5_3 := blk_frozen BKg5.out 3
          have hcg5_4 : W9.cell? ⟨g5, 4, none⟩ = some (.int .i64 ((cdig q) 3)) := (blk_cell BKg5.out 4).trans rfl
          have hfg5_4 := blk_frozen BKg5.out 4
          have hcg5_5 : W9.cell? ⟨g5, 5, none⟩ = some (.int .i64 ((cdig q) 4)) := (blk_cell BKg5.out 5).trans rfl
          have hfg5_5 := blk_frozen BKg5.out 5
          have hcg5_6 : W9.cell? ⟨g5, 6, none⟩ = some (.int .i64 ((cdig q) 5)) := (blk_cell BKg5.out 6).trans rfl
          have hfg5_6 := blk_frozen BKg5.out 6
          have hcg5_7 : W9.cell? ⟨g5, 7, none⟩ = some (.int .i64 ((cdig q) 6)) := (blk_cell BKg5.out 7).trans rfl
          have hfg5_7 := blk_frozen BKg5.out 7
          have hcg5_8 : W9.cell? ⟨g5, 8, none⟩ = some (.int .i64 ((cdig q) 7)) := (blk_cell BKg5.out 8).trans rfl
          have hfg5_8 := blk_frozen BKg5.out 8
          have hcg2_0 : W9.cell? ⟨g2, 0, none⟩ = some (.bool ma) := (blk_cell BKg2.out 0).trans rfl
          have hfg2_0 := blk_frozen BKg2.out 0
          have hcg2_1 : W9.cell? ⟨g2, 1, none⟩ = some (.int .i64 ((cdig A) 0)) := (blk_cell BKg2.out 1).trans rfl
          have hfg2_1 := blk_frozen BKg2.out 1
          have hcg2_2 : W9.cell? ⟨g2, 2, none⟩ = some (.int .i64 ((cdig A) 1)) := (blk_cell BKg2.out 2).trans rfl
          have hfg2_2 := blk_frozen BKg2.out 2
          have hcg2_3 : W9.cell? ⟨g2, 3, none⟩ = some (.int .i64 ((cdig A) 2)) := (blk_cell BKg2.out 3).trans rfl
          have hfg2_3 := blk_frozen BKg2.out 3
          have hcg2_4 : W9.cell? ⟨g2, 4, none⟩ = some (.int .i64 ((cdig A) 3)) := (blk_cell BKg2.out 4).trans rfl
          have hfg2_4 := blk_frozen BKg2.out 4
          have hcg2_5 : W9.cell? ⟨g2, 5, none⟩ = some (.int .i64 ((cdig A) 4)) := (blk_cell BKg2.out 5).trans rfl
          have hfg2_5 := blk_frozen BKg2.out 5
          have hcg2_6 : W9.cell? ⟨g2, 6, none⟩ = some (.int .i64 ((cdig A) 5)) := (blk_cell BKg2.out 6).trans rfl
          have hfg2_6 := blk_frozen BKg2.out 6
          have hcg2_7 : W9.cell? ⟨g2, 7, none⟩ = some (.int .i64 ((cdig A) 6)) := (blk_cell BKg2.out 7).trans rfl
          have hfg2_7 := blk_frozen BKg2.out 7
          have hcg2_8 : W9.cell? ⟨g2, 8, none⟩ = some (.int .i64 ((cdig A) 7)) := (blk_cell BKg2.out 8).trans rfl
          have hfg2_8 := blk_frozen BKg2.out 8
          have hcg3_0 : W9.cell? ⟨g3, 0, none⟩ = some (.bool mb) := (blk_cell BKg3.out 0).trans rfl
          have hfg3_0 := blk_frozen BKg3.out 0
          have hcg3_1 : W9.cell? ⟨g3, 1, none⟩ = some (.int .i64 ((cdig B) 0)) := (blk_cell BKg3.out 1).trans rfl
          have hfg3_1 := blk_frozen BKg3.out 1
          have hcg3_2 : W9.cell? ⟨g3, 2, none⟩ = some (.int .i64 ((cdig B) 1)) := (blk_cell BKg3.out 2).trans rfl
          have hfg3_2 := blk_frozen BKg3.out 2
          have hcg3_3 : W9.cell? ⟨g3, 3, none⟩ = some (.int .i64 ((cdig B) 2)) := (blk_cell BKg3.out 3).trans rfl
          have hfg3_3 := blk_frozen BKg3.out 3
          have hcg3_4 : W9.cell? ⟨g3, 4, none⟩ = some (.int .i64 ((cdig B) 3)) := (blk_cell BKg3.out 4).trans rfl
          have hfg3_4 := blk_frozen BKg3.out 4
          have hcg3_5 : W9.cell? ⟨g3, 5, none⟩ = some (.int .i64 ((cdig B) 4)) := (blk_cell BKg3.out 5).trans rfl
          have hfg3_5 := blk_frozen BKg3.out 5
          have hcg3_6 : W9.cell? ⟨g3, 6, none⟩ = some (.int .i64 ((cdig B) 5)) := (blk_cell BKg3.out 6).trans rfl
          have hfg3_6 := blk_frozen BKg3.out 6
          have hcg3_7 : W9.cell? ⟨g3, 7, none⟩ = some (.int .i64 ((cdig B) 6)) := (blk_cell BKg3.out 7).trans rfl
          have hfg3_7 := blk_frozen BKg3.out 7
          have hcg3_8 : W9.cell? ⟨g3, 8, none⟩ = some (.int .i64 ((cdig B) 7)) := (blk_cell BKg3.out 8).trans rfl
          have hfg3_8 := blk_frozen BKg3.out 8
          have hcg4_0 : W9.cell? ⟨g4, 0, none⟩ = some (.bool false) := (blk_cell BKg4.out 0).trans rfl
          have hfg4_0 := blk_frozen BKg4.out 0
          have hcg4_1 : W9.cell? ⟨g4, 1, none⟩ = some (.int .i64 0) := (blk_cell BKg4.out 1).trans rfl
          have hfg4_1 := blk_frozen BKg4.out 1
          have hcg4_2 : W9.cell? ⟨g4, 2, none⟩ = some (.int .i64 0) := (blk_cell BKg4.out 2).trans rfl
          have hfg4_2 := blk_frozen BKg4.out 2
          have hcg4_3 : W9.cell? ⟨g4, 3, none⟩ = some (.int .i64 0) := (blk_cell BKg4.out 3).trans rfl
          have hfg4_3 := blk_frozen BKg4.out 3
          have hcg4_4 : W9.cell? ⟨g4, 4, none⟩ = some (.int .i64 0) := (blk_cell BKg4.out 4).trans rfl
          have hfg4_4 := blk_frozen BKg4.out 4
          have hcg4_5 : W9.cell? ⟨g4, 5, none⟩ = some (.int .i64 0) := (blk_cell BKg4.out 5).trans rfl
          have hfg4_5 := blk_frozen BKg4.out 5
          have hcg4_6 : W9.cell? ⟨g4, 6, none⟩ = some (.int .i64 0) := (blk_cell BKg4.out 6).trans rfl
          have hfg4_6 := blk_frozen BKg4.out 6
          have hcg4_7 : W9.cell? ⟨g4, 7, none⟩ = some (.int .i64 0) := (blk_cell BKg4.out 7).trans rfl
          have hfg4_7 := blk_frozen BKg4.out 7
          have hcg4_8 : W9.cell? ⟨g4, 8, none⟩ = some (.int .i64 0) := (blk_cell BKg4.out 8).trans rfl
          have hfg4_8 := blk_frozen BKg4.out 8
          go_upto_region 11 with (fail)
          have n_ : Aside0 ((((((((((W9.setCell ⟨g6, 0, none⟩ (.bool false)).setCell ⟨g6, 1, none⟩ (.int .i64 ((cdig z) 0))).setCell ⟨g6, 2, none⟩ (.int .i64 ((cdig z) 1))).setCell ⟨g6, 3, none⟩ (.int .i64 ((cdig z) 2))).setCell ⟨g6, 4, none⟩ (.int .i64 ((cdig z) 3))).setCell ⟨g6, 5, none⟩ (.int .i64 ((cdig z) 4))).setCell ⟨g6, 6, none⟩ (.int .i64 ((cdig z) 5))).setCell ⟨g6, 7, none⟩ (.int .i64 ((cdig z) 6))).setCell ⟨g6, 8, none⟩ (.int .i64 ((cdig z) 7))).heap[g6]? = some (.cells #[.bool false, .int .i64 ((cdig z) 0), .int .i64 ((cdig z) 1), .int .i64 ((cdig z) 2), .int .i64 ((cdig z) 3), .int .i64 ((cdig z) 4), .int .i64 ((cdig z) 5), .int .i64 ((cdig z) 6), .int .i64 ((cdig z) 7)] 60 (0, 0))) := ⟨by refine blk_put (cs := #[.bool false, .int .i64 ((cdig z) 0), .int .i64 ((cdig z) 1), .int .i64 ((cdig z) 2), .int .i64 ((cdig z) 3), .int .i64 ((cdig z) 4), .int .i64 ((cdig z) 5), .int .i64 ((cdig z) 6), .int .i64 ((cdig x) 7)]) ?_ 8 _ rfl; refine blk_put (cs := #[.bool false, .int .i64 ((cdig z) 0), .int .i64 ((cdig z) 1), .int .i64 ((cdig z) 2), .int .i64 ((cdig z) 3), .int .i64 ((cdig z) 4), .int .i64 ((cdig z) 5), .int .i64 ((cdig x) 6), .int .i64 ((cdig x) 7)]) ?_ 7 _ rfl; refine blk_put (cs := #[.bool false, .int .i64 ((cdig z) 0), .int .i64 ((cdig z) 1), .int .i64 ((cdig z) 2), .int .i64 ((cdig z) 3), .int .i64 ((cdig z) 4), .int .i64 ((cdig x) 5), .int .i64 ((cdig x) 6), .int .i64 ((cdig x) 7)]) ?_ 6 _ rfl; refine blk_put (cs := #[.bool false, .int .i64 ((cdig z) 0), .int .i64 ((cdig z) 1), .int .i64 ((cdig z) 2), .int .i64 ((cdig z) 3), .int .i64 ((cdig x) 4), .int .i64 ((cdig x) 5), .int .i64 ((cdig x) 6), .int .i64 ((cdig x) 7)]) ?_ 5 _ rfl; refine blk_put (cs := #[.bool false, .int .i64 ((cdig z) 0), .int .i64 ((cdig z) 1), .int .i64 ((cdig z) 2), .int .i64 ((cdig x) 3), .int .i64 ((cdig x) 4), .int .i64 ((cdig x) 5), .int .i64 ((cdig x) 6), .int .i64 ((cdig x) 7)]) ?_ 4 _ rfl; refine blk_put (cs := #[.bool false, .int .i64 ((cdig z) 0), .int .i64 ((cdig z) 1), .int .i64 ((cdig x) 2), .int .i64 ((cdig x) 3), .int .i64 ((cdig x) 4), .int .i64 ((cdig x) 5), .int .i64 ((cdig x) 6), .int .i64 ((cdig x) 7)]) ?_ 3 _ rfl; refine blk_put (cs := #[.bool false, .int .i64 ((cdig z) 0), .int .i64 ((cdig x) 1), .int .i64 ((cdig x) 2), .int .i64 ((cdig x) 3), .int .i64 ((cdig x) 4), .int .i64 ((cdig x) 5), .int .i64 ((cdig x) 6), .int .i64 ((cdig x) 7)]) ?_ 2 _ rfl; refine blk_put (cs := #[.bool false, .int .i64 ((cdig x) 0), .int .i64 ((cdig x) 1), .int .i64 ((cdig x) 2), .int .i64 ((cdig x) 3), .int .i64 ((cdig x) 4), .int .i64 ((cdig x) 5), .int .i64 ((cdig x) 6), .int .i64 ((cdig x) 7)]) ?_ 1 _ rfl; refine blk_put (cs := #[.bool false, .int .i64 ((cdig x) 0), .int .i64 ((cdig x) 1), .int .i64 ((cdig x) 2), .int .i64 ((cdig x) 3), .int .i64 ((cdig x) 4), .int .i64 ((cdig x) 5), .int .i64 ((cdig x) 6), .int .i64 ((cdig x) 7)]) ?_ 0 _ rfl; exact BKg6.out⟩
          have m_ : Aside0 ((((((((((W9.setCell ⟨g6, 0, none⟩ (.bool false)).setCell ⟨g6, 1, none⟩ (.int .i64 ((cdig z) 0))).setCell ⟨g6, 2, none⟩ (.int .i64 ((cdig z) 1))).setCell ⟨g6, 3, none⟩ (.int .i64 ((cdig z) 2))).setCell ⟨g6, 4, none⟩ (.int .i64 ((cdig z) 3))).setCell ⟨g6, 5, none⟩ (.int .i64 ((cdig z) 4))).setCell ⟨g6, 6, none⟩ (.int .i64 ((cdig z) 5))).setCell ⟨g6, 7, none⟩ (.int .i64 ((cdig z) 6))).setCell ⟨g6, 8, none⟩ (.int .i64 ((cdig z) 7))).heap[g5]? = some (.cells (bigA (!(ma == mb)) (cdig q)) 60 (0, 0))) := ⟨(blk_far (blk_far (blk_far (blk_far (blk_far (blk_far (blk_far (blk_far (blk_far BKg5.out NBg5_g6 _) NBg5_g6 _) NBg5_g6 _) NBg5_g6 _) NBg5_g6 _) NBg5_g6 _) NBg5_g6 _) NBg5_g6 _) NBg5_g6 _)⟩
          clear BKg5; have BKg5 := m_; clear m_
          have m_ : Aside0 ((((((((((W9.setCell ⟨g6, 0, none⟩ (.bool false)).setCell ⟨g6, 1, none⟩ (.int .i64 ((cdig z) 0))).setCell ⟨g6, 2, none⟩ (.int .i64 ((cdig z) 1))).setCell ⟨g6, 3, none⟩ (.int .i64 ((cdig z) 2))).setCell ⟨g6, 4, none⟩ (.int .i64 ((cdig z) 3))).setCell ⟨g6, 5, none⟩ (.int .i64 ((cdig z) 4))).setCell ⟨g6, 6, none⟩ (.int .i64 ((cdig z) 5))).setCell ⟨g6, 7, none⟩ (.int .i64 ((cdig z) 6))).setCell ⟨g6, 8, none⟩ (.int .i64 ((cdig z) 7))).heap[g2]? = some (.cells (bigA ma (cdig A)) 60 (0, 0))) := ⟨(blk_far (blk_far (blk_far (blk_far (blk_far (blk_far (blk_far (blk_far (blk_far BKg2.out NBg2_g6 _) NBg2_g6 _) NBg2_g6 _) NBg2_g6 _) NBg2_g6 _) NBg2_g6 _) NBg2_g6 _) NBg2_g6 _) NBg2_g6 _)⟩
          clear BKg2; have BKg2 := m_; clear m_
          have m_ : Aside0 ((((((((((W9.setCell ⟨g6, 0, none⟩ (.bool false)).setCell ⟨g6, 1, none⟩ (.int .i64 ((cdig z) 0))).setCell ⟨g6, 2, none⟩ (.int .i64 ((cdig z) 1))).setCell ⟨g6, 3, none⟩ (.int .i64 ((cdig z) 2))).setCell ⟨g6, 4, none⟩ (.int .i64 ((cdig z) 3))).setCell ⟨g6, 5, none⟩ (.int .i64 ((cdig z) 4))).setCell ⟨g6, 6, none⟩ (.int .i64 ((cdig z) 5))).setCell ⟨g6, 7, none⟩ (.int .i64 ((cdig z) 6))).setCell ⟨g6, 8, none⟩ (.int .i64 ((cdig z) 7))).heap[g3]? = some (.cells (bigA mb (cdig B)) 60 (0, 0))) := ⟨(blk_far (blk_far (blk_far (blk_far (blk_far (blk_far (blk_far (blk_far (blk_far BKg3.out NBg3_g6 _) NBg3_g6 _) NBg3_g6 _) NBg3_g6 _) NBg3_g6 _) NBg3_g6 _) NBg3_g6 _) NBg3_g6 _) NBg3_g6 _)⟩
          clear BKg3; have BKg3 := m_; clear m_
          have m_ : Aside0 ((((((((((W9.setCell ⟨g6, 0, none⟩ (.bool false)).setCell ⟨g6, 1, none⟩ (.int .i64 ((cdig z) 0))).setCell ⟨g6, 2, none⟩ (.int .i64 ((cdig z) 1))).setCell ⟨g6, 3, none⟩ (.int .i64 ((cdig z) 2))).setCell ⟨g6, 4, none⟩ (.int .i64 ((cdig z) 3))).setCell ⟨g6, 5, none⟩ (.int .i64 ((cdig z) 4))).setCell ⟨g6, 6, none⟩ (.int .i64 ((cdig z) 5))).setCell ⟨g6, 7, none⟩ (.int .i64 ((cdig z) 6))).setCell ⟨g6, 8, none⟩ (.int .i64 ((cdig z) 7))).heap[g4]? = some (.cells #[.bool false, .int .i64 0, .int .i64 0, .int .i64 0, .int .i64 0, .int .i64 0, .int .i64 0, .int .i64 0, .int .i64 0] 60 (0, 0))) := ⟨(blk_far (blk_far (blk_far (blk_far (blk_far (blk_far (blk_far (blk_far (blk_far BKg4.out NBg4_g6 _) NBg4_g6 _) NBg4_g6 _) NBg4_g6 _) NBg4_g6 _) NBg4_g6 _) NBg4_g6 _) NBg4_g6 _) NBg4_g6 _)⟩
          clear BKg4; have BKg4 := m_; clear m_
          have b_ : Aside0 (Below w.heap.size w (((((((((W9.setCell ⟨g6, 0, none⟩ (.bool false)).setCell ⟨g6, 1, none⟩ (.int .i64 ((cdig z) 0))).setCell ⟨g6, 2, none⟩ (.int .i64 ((cdig z) 1))).setCell ⟨g6, 3, none⟩ (.int .i64 ((cdig z) 2))).setCell ⟨g6, 4, none⟩ (.int .i64 ((cdig z) 3))).setCell ⟨g6, 5, none⟩ (.int .i64 ((cdig z) 4))).setCell ⟨g6, 6, none⟩ (.int .i64 ((cdig z) 5))).setCell ⟨g6, 7, none⟩ (.int .i64 ((cdig z) 6))).setCell ⟨g6, 8, none⟩ (.int .i64 ((cdig z) 7)))) := ⟨(below_set (below_set (below_set (below_set (below_set (below_set (below_set (below_set (below_set HB.out GEg6.out) GEg6.out) GEg6.out) GEg6.out) GEg6.out) GEg6.out) GEg6.out) GEg6.out) GEg6.out)⟩
          clear BKg6 HB; have BKg6 := n_; have HB := b_; clear n_ b_
          clear hcg6_0 hfg6_0
          clear hcg6_1 hfg6_1
          clear hcg6_2 hfg6_2
          clear hcg6_3 hfg6_3
          clear hcg6_4 hfg6_4
          clear hcg6_5 hfg6_5
          clear hcg6_6 hfg6_6
          clear hcg6_7 hfg6_7
          clear hcg6_8 hfg6_8
          clear hcg5_0 hfg5_0
          clear hcg5_1 hfg5_1
          clear hcg5_2 hfg5_2
          clear hcg5_3 hfg5_3
          clear hcg5_4 hfg5_4
          clear hcg5_5 hfg5_5
          clear hcg5_6 hfg5_6
          clear hcg5_7 hfg5_7
          clear hcg5_8 hfg5_8
          clear hcg2_0 hfg2_0
          clear hcg2_1 hfg2_1
          clear hcg2_2 hfg2_2
          clear hcg2_3 hfg2_3
          clear hcg2_4 hfg2_4
          clear hcg2_5 hfg2_5
          clear hcg2_6 hfg2_6
          clear hcg2_7 hfg2_7
          clear hcg2_8 hfg2_8
          clear hcg3_0 hfg3_0
          clear hcg3_1 hfg3_1
          clear hcg3_2 hfg3_2
          clear hcg3_3 hfg3_3
          clear hcg3_4 hfg3_4
          clear hcg3_5 hfg3_5
          clear hcg3_6 hfg3_6
          clear hcg3_7 hfg3_7
          clear hcg3_8 hfg3_8
          clear hcg4_0 hfg4_0
          clear hcg4_1 hfg4_1
          clear hcg4_2 hfg4_2
          clear hcg4_3 hfg4_3
          clear hcg4_4 hfg4_4
          clear hcg4_5 hfg4_5
          clear hcg4_6 hfg4_6
          clear hcg4_7 hfg4_7
          clear hcg4_8 hfg4_8
          generalize (((((((((W9.setCell ⟨g6, 0, none⟩ (.bool false)).setCell ⟨g6, 1, none⟩ (.int .i64 ((cdig z) 0))).setCell ⟨g6, 2, none⟩ (.int .i64 ((cdig z) 1))).setCell ⟨g6, 3, none⟩ (.int .i64 ((cdig z) 2))).setCell ⟨g6, 4, none⟩ (.int .i64 ((cdig z) 3))).setCell ⟨g6, 5, none⟩ (.int .i64 ((cdig z) 4))).setCell ⟨g6, 6, none⟩ (.int .i64 ((cdig z) 5))).setCell ⟨g6, 7, none⟩ (.int .i64 ((cdig z) 6))).setCell ⟨g6, 8, none⟩ (.int .i64 ((cdig z) 7))) = W10 at *
          have hcg6_0 : W10.cell? ⟨g6, 0, none⟩ = some (.bool false) := (blk_cell BKg6.out 0).trans rfl
          have hfg6_0 := blk_frozen BKg6.out 0
          have hcg6_1 : W10.cell? ⟨g6, 1, none⟩ = some (.int .i64 ((cdig z) 0)) := (blk_cell BKg6.out 1).trans rfl
          have hfg6_1 := blk_frozen BKg6.out 1
          have hcg6_2 : W10.cell? ⟨g6, 2, none⟩ = some (.int .i64 ((cdig z) 1)) := (blk_cell BKg6.out 2).trans rfl
          have hfg6_2 := blk_frozen BKg6.out 2
          have hcg6_3 : W10.cell? ⟨g6, 3, none⟩ = some (.int .i64 ((cdig z) 2)) := (blk_cell BKg6.out 3).trans rfl
          have hfg6_3 := blk_frozen BKg6.out 3
          have hcg6_4 : W10.cell? ⟨g6, 4, none⟩ = some (.int .i64 ((cdig z) 3)) := (blk_cell BKg6.out 4).trans rfl
          have hfg6_4 := blk_frozen BKg6.out 4
          have hcg6_5 : W10.cell? ⟨g6, 5, none⟩ = some (.int .i64 ((cdig z) 4)) := (blk_cell BKg6.out 5).trans rfl
          have hfg6_5 := blk_frozen BKg6.out 5
          have hcg6_6 : W10.cell? ⟨g6, 6, none⟩ = some (.int .i64 ((cdig z) 5)) := (blk_cell BKg6.out 6).trans rfl
          have hfg6_6 := blk_frozen BKg6.out 6
          have hcg6_7 : W10.cell? ⟨g6, 7, none⟩ = some (.int .i64 ((cdig z) 6)) := (blk_cell BKg6.out 7).trans rfl
          have hfg6_7 := blk_frozen BKg6.out 7
          have hcg6_8 : W10.cell? ⟨g6, 8, none⟩ = some (.int .i64 ((cdig z) 7)) := (blk_cell BKg6.out 8).trans rfl
          have hfg6_8 := blk_frozen BKg6.out 8
          have hcg5_0 : W10.cell? ⟨g5, 0, none⟩ = some (.bool (!(ma == mb))) := (blk_cell BKg5.out 0).trans rfl
          have hfg5_0 := blk_frozen BKg5.out 0
          have hcg5_1 : W10.cell? ⟨g5, 1, none⟩ = some (.int .i64 ((cdig q) 0)) := (blk_cell BKg5.out 1).trans rfl
          have hfg5_1 := blk_frozen BKg5.out 1
          have hcg5_2 : W10.cell? ⟨g5, 2, none⟩ = some (.int .i64 ((cdig q) 1)) := (blk_cell BKg5.out 2).trans rfl
          have hfg5_2 := blk_frozen BKg5.out 2
          have hcg5_3 : W10.cell? ⟨g5, 3, none⟩ = some (.int .i64 ((cdig q) 2)) := (blk_cell BKg5.out 3).trans rfl
          have hfg5_3 := blk_frozen BKg5.out 3
          have hcg5_4 : W10.cell? ⟨g5, 4, none⟩ = some (.int .i64 ((cdig q) 3)) := (blk_cell BKg5.out 4).trans rfl
          have hfg5_4 := blk_frozen BKg5.out 4
          have hcg5_5 : W10.cell? ⟨g5, 5, none⟩ = some (.int .i64 ((cdig q) 4)) := (blk_cell BKg5.out 5).trans rfl
          have hfg5_5 := blk_frozen BKg5.out 5
          have hcg5_6 : W10.cell? ⟨g5, 6, none⟩ = some (.int .i64 ((cdig q) 5)) := (blk_cell BKg5.out 6).trans rfl
          have hfg5_6 := blk_frozen BKg5.out 6
          have hcg5_7 : W10.cell? ⟨g5, 7, none⟩ = some (.int .i64 ((cdig q) 6)) := (blk_cell BKg5.out 7).trans rfl
          have hfg5_7 := blk_frozen BKg5.out 7
          have hcg5_8 : W10.cell? ⟨g5, 8, none⟩ = some (.int .i64 ((cdig q) 7)) := (blk_cell BKg5.out 8).trans rfl
          have hfg5_8 := blk_frozen BKg5.out 8
          have hcg2_0 : W10.cell? ⟨g2, 0, none⟩ = some (.bool ma) := (blk_cell BKg2.out 0).trans rfl
          have hfg2_0 := blk_frozen BKg2.out 0
          have hcg2_1 : W10.cell? ⟨g2, 1, none⟩ = some (.int .i64 ((cdig A) 0)) := (blk_cell BKg2.out 1).trans rfl
          have hfg2_1 := blk_frozen BKg2.out 1
          have hcg2_2 : W10.cell? ⟨g2, 2, none⟩ = some (.int .i64 ((cdig A) 1)) := (blk_cell BKg2.out 2).trans rfl
          have hfg2_2 := blk_frozen BKg2.out 2
          have hcg2_3 : W10.cell? ⟨g2, 3, none⟩ = some (.int .i64 ((cdig A) 2)) := (blk_cell BKg2.out 3).trans rfl
          have hfg2_3 := blk_frozen BKg2.out 3
          have hcg2_4 : W10.cell? ⟨g2, 4, none⟩ = some (.int .i64 ((cdig A) 3)) := (blk_cell BKg2.out 4).trans rfl
          have hfg2_4 := blk_frozen BKg2.out 4
          have hcg2_5 : W10.cell? ⟨g2, 5, none⟩ = some (.int .i64 ((cdig A) 4)) := (blk_cell BKg2.out 5).trans rfl
          have hfg2_5 := blk_frozen BKg2.out 5
          have hcg2_6 : W10.cell? ⟨g2, 6, none⟩ = some (.int .i64 ((cdig A) 5)) := (blk_cell BKg2.out 6).trans rfl
          have hfg2_6 := blk_frozen BKg2.out 6
          have hcg2_7 : W10.cell? ⟨g2, 7, none⟩ = some (.int .i64 ((cdig A) 6)) := (blk_cell BKg2.out 7).trans rfl
          have hfg2_7 := blk_frozen BKg2.out 7
          have hcg2_8 : W10.cell? ⟨g2, 8, none⟩ = some (.int .i64 ((cdig A) 7)) := (blk_cell BKg2.out 8).trans rfl
          have hfg2_8 := blk_frozen BKg2.out 8
          have hcg3_0 : W10.cell? ⟨g3, 0, none⟩ = some (.bool mb) := (blk_cell BKg3.out 0).trans rfl
          have hfg3_0 := blk_frozen BKg3.out 0
          have hcg3_1 : W10.cell? ⟨g3, 1, none⟩ = some (.int .i64 ((cdig B) 0)) := (blk_cell BKg3.out 1).trans rfl
          have hfg3_1 := blk_frozen BKg3.out 1
          have hcg3_2 : W10.cell? ⟨g3, 2, none⟩ = some (.int .i64 ((cdig B) 1)) := (blk_cell BKg3.out 2).trans rfl
          have hfg3_2 := blk_frozen BKg3.out 2
          have hcg3_3 : W10.cell? ⟨g3, 3, none⟩ = some (.int .i64 ((cdig B) 2)) := (blk_cell BKg3.out 3).trans rfl
          have hfg3_3 := blk_frozen BKg3.out 3
          have hcg3_4 : W10.cell? ⟨g3, 4, none⟩ = some (.int .i64 ((cdig B) 3)) := (blk_cell BKg3.out 4).trans rfl
          have hfg3_4 := blk_frozen BKg3.out 4
          have hcg3_5 : W10.cell? ⟨g3, 5, none⟩ = some (.int .i64 ((cdig B) 4)) := (blk_cell BKg3.out 5).trans rfl
          have hfg3_5 := blk_frozen BKg3.out 5
          have hcg3_6 : W10.cell? ⟨g3, 6, none⟩ = some (.int .i64 ((cdig B) 5)) := (blk_cell BKg3.out 6).trans rfl
          have hfg3_6 := blk_frozen BKg3.out 6
          have hcg3_7 : W10.cell? ⟨g3, 7, none⟩ = some (.int .i64 ((cdig B) 6)) := (blk_cell BKg3.out 7).trans rfl
          have hfg3_7 := blk_frozen BKg3.out 7
          have hcg3_8 : W10.cell? ⟨g3, 8, none⟩ = some (.int .i64 ((cdig B) 7)) := (blk_cell BKg3.out 8).trans rfl
          have hfg3_8 := blk_frozen BKg3.out 8
          have hcg4_0 : W10.cell? ⟨g4, 0, none⟩ = some (.bool false) := (blk_cell BKg4.out 0).trans rfl
          have hfg4_0 := blk_frozen BKg4.out 0
          have hcg4_1 : W10.cell? ⟨g4, 1, none⟩ = some (.int .i64 0) := (blk_cell BKg4.out 1).trans rfl
          have hfg4_1 := blk_frozen BKg4.out 1
          have hcg4_2 : W10.cell? ⟨g4, 2, none⟩ = some (.int .i64 0) := (blk_cell BKg4.out 2).trans rfl
          have hfg4_2 := blk_frozen BKg4.out 2
          have hcg4_3 : W10.cell? ⟨g4, 3, none⟩ = some (.int .i64 0) := (blk_cell BKg4.out 3).trans rfl
          have hfg4_3 := blk_frozen BKg4.out 3
          have hcg4_4 : W10.cell? ⟨g4, 4, none⟩ = some (.int .i64 0) := (blk_cell BKg4.out 4).trans rfl
          have hfg4_4 := blk_frozen BKg4.out 4
          have hcg4_5 : W10.cell? ⟨g4, 5, none⟩ = some (.int .i64 0) := (blk_cell BKg4.out 5).trans rfl
          have hfg4_5 := blk_frozen BKg4.out 5
          have hcg4_6 : W10.cell? ⟨g4, 6, none⟩ = some (.int .i64 0) := (blk_cell BKg4.out 6).trans rfl
          have hfg4_6 := blk_frozen BKg4.out 6
          have hcg4_7 : W10.cell? ⟨g4, 7, none⟩ = some (.int .i64 0) := (blk_cell BKg4.out 7).trans rfl
          have hfg4_7 := blk_frozen BKg4.out 7
          have hcg4_8 : W10.cell? ⟨g4, 8, none⟩ = some (.int .i64 0) := (blk_cell BKg4.out 8).trans rfl
          have hfg4_8 := blk_frozen BKg4.out 8
          have hqr : Rep (cdig q) q := rep_cdig HR.out.q0 (by have := HR.out.qA ha.nonneg; have := div_pow_le ha.nonneg (k + 1); have := ha.lt; omega)
          have hnx : OvR A B k (2 * q + 1) z := by have := HR.out.up (by rw [← HB01.out, ← HX.out]; exact hc); rw [← HB01.out, ← HX.out, ← HZ.out] at this; exact this
          have hqb : 2 * q + 1 < 340282366920938463463374607431768211456 := by have := hnx.qA ha.nonneg; have := div_pow_le ha.nonneg k; have := ha.lt; omega
          obtain ⟨q2, hq2⟩ : ∃ q2, q2 = 2 * q + 1 := ⟨_, rfl⟩
          rw [← hq2] at hnx
          have HN := Aside0.mk hnx; clear hnx; have HQ2 := Lib.hid hq2; clear hq2
          go_wp2_with fail
          ((with_reducible refine (double_ex (!(ma == mb)) q 1 q2 _ hqr (by decide) (by decide) hqb HQ2.out).mono ?_); rintro e_ W11 ⟨rfl, hb_⟩)
          have n_ := Aside0.mk (blk_below BKg6.out hb_); clear BKg6; have BKg6 := n_; clear n_
          clear hcg6_0 hfg6_0
          clear hcg6_1 hfg6_1
          clear hcg6_2 hfg6_2
          clear hcg6_3 hfg6_3
          clear hcg6_4 hfg6_4
          clear hcg6_5 hfg6_5
          clear hcg6_6 hfg6_6
          clear hcg6_7 hfg6_7
          clear hcg6_8 hfg6_8
          have n_ := Aside0.mk (blk_below BKg5.out hb_); clear BKg5; have BKg5 := n_; clear n_
          clear hcg5_0 hfg5_0
          clear hcg5_1 hfg5_1
          clear hcg5_2 hfg5_2
          clear hcg5_3 hfg5_3
          clear hcg5_4 hfg5_4
          clear hcg5_5 hfg5_5
          clear hcg5_6 hfg5_6
          clear hcg5_7 hfg5_7
          clear hcg5_8 hfg5_8
          have n_ := Aside0.mk (blk_below BKg2.out hb_); clear BKg2; have BKg2 := n_; clear n_
          clear hcg2_0 hfg2_0
          clear hcg2_1 hfg2_1
          clear hcg2_2 hfg2_2
          clear hcg2_3 hfg2_3
          clear hcg2_4 hfg2_4
          clear hcg2_5 hfg2_5
          clear hcg2_6 hfg2_6
          clear hcg2_7 hfg2_7
          clear hcg2_8 hfg2_8
          have n_ := Aside0.mk (blk_below BKg3.out hb_); clear BKg3; have BKg3 := n_; clear n_
          clear hcg3_0 hfg3_0
          clear hcg3_1 hfg3_1
          clear hcg3_2 hfg3_2
          clear hcg3_3 hfg3_3
          clear hcg3_4 hfg3_4
          clear hcg3_5 hfg3_5
          clear hcg3_6 hfg3_6
          clear hcg3_7 hfg3_7
          clear hcg3_8 hfg3_8
          have n_ := Aside0.mk (blk_below BKg4.out hb_); clear BKg4; have BKg4 := n_; clear n_
          clear hcg4_0 hfg4_0
          clear hcg4_1 hfg4_1
          clear hcg4_2 hfg4_2
          clear hcg4_3 hfg4_3
          clear hcg4_4 hfg4_4
          clear hcg4_5 hfg4_5
          clear hcg4_6 hfg4_6
          clear hcg4_7 hfg4_7
          clear hcg4_8 hfg4_8
          have n_ := Aside0.mk (below_step HB.out hb_); clear HB; have HB := n_; clear n_
          clear hb_
          have hcg6_0 : W11.cell? ⟨g6, 0, none⟩ = some (.bool false) := (blk_cell BKg6.out 0).trans rfl
          have hfg6_0 := blk_frozen BKg6.out 0
          have hcg6_1 : W11.cell? ⟨g6, 1, none⟩ = some (.int .i64 ((cdig z) 0)) := (blk_cell BKg6.out 1).trans rfl
          have hfg6_1 := blk_frozen BKg6.out 1
          have hcg6_2 : W11.cell? ⟨g6, 2, none⟩ = some (.int .i64 ((cdig z) 1)) := (blk_cell BKg6.out 2).trans rfl
          have hfg6_2 := blk_frozen BKg6.out 2
          have hcg6_3 : W11.cell? ⟨g6, 3, none⟩ = some (.int .i64 ((cdig z) 2)) := (blk_cell BKg6.out 3).trans rfl
          have hfg6_3 := blk_frozen BKg6.out 3
          have hcg6_4 : W11.cell? ⟨g6, 4, none⟩ = some (.int .i64 ((cdig z) 3)) := (blk_cell BKg6.out 4).trans rfl
          have hfg6_4 := blk_frozen BKg6.out 4
          have hcg6_5 : W11.cell? ⟨g6, 5, none⟩ = some (.int .i64 ((cdig z) 4)) := (blk_cell BKg6.out 5).trans rfl
          have hfg6_5 := blk_frozen BKg6.out 5
          have hcg6_6 : W11.cell? ⟨g6, 6, none⟩ = some (.int .i64 ((cdig z) 5)) := (blk_cell BKg6.out 6).trans rfl
          have hfg6_6 := blk_frozen BKg6.out 6
          have hcg6_7 : W11.cell? ⟨g6, 7, none⟩ = some (.int .i64 ((cdig z) 6)) := (blk_cell BKg6.out 7).trans rfl
          have hfg6_7 := blk_frozen BKg6.out 7
          have hcg6_8 : W11.cell? ⟨g6, 8, none⟩ = some (.int .i64 ((cdig z) 7)) := (blk_cell BKg6.out 8).trans rfl
          have hfg6_8 := blk_frozen BKg6.out 8
          have hcg5_0 : W11.cell? ⟨g5, 0, none⟩ = some (.bool (!(ma == mb))) := (blk_cell BKg5.out 0).trans rfl
          have hfg5_0 := blk_frozen BKg5.out 0
          have hcg5_1 : W11.cell? ⟨g5, 1, none⟩ = some (.int .i64 ((cdig q) 0)) := (blk_cell BKg5.out 1).trans rfl
          have hfg5_1 := blk_frozen BKg5.out 1
          have hcg5_2 : W11.cell? ⟨g5, 2, none⟩ = some (.int .i64 ((cdig q) 1)) := (blk_cell BKg5.out 2).trans rfl
          have hfg5_2 := blk_frozen BKg5.out 2
          have hcg5_3 : W11.cell? ⟨g5, 3, none⟩ = some (.int .i64 ((cdig q) 2)) := (blk_cell BKg5.out 3).trans rfl
          have hfg5_3 := blk_frozen BKg5.out 3
          have hcg5_4 : W11.cell? ⟨g5, 4, none⟩ = some (.int .i64 ((cdig q) 3)) := (blk_cell BKg5.out 4).trans rfl
          have hfg5_4 := blk_frozen BKg5.out 4
          have hcg5_5 : W11.cell? ⟨g5, 5, none⟩ = some (.int .i64 ((cdig q) 4)) := (blk_cell BKg5.out 5).trans rfl
          have hfg5_5 := blk_frozen BKg5.out 5
          have hcg5_6 : W11.cell? ⟨g5, 6, none⟩ = some (.int .i64 ((cdig q) 5)) := (blk_cell BKg5.out 6).trans rfl
          have hfg5_6 := blk_frozen BKg5.out 6
          have hcg5_7 : W11.cell? ⟨g5, 7, none⟩ = some (.int .i64 ((cdig q) 6)) := (blk_cell BKg5.out 7).trans rfl
          have hfg5_7 := blk_frozen BKg5.out 7
          have hcg5_8 : W11.cell? ⟨g5, 8, none⟩ = some (.int .i64 ((cdig q) 7)) := (blk_cell BKg5.out 8).trans rfl
          have hfg5_8 := blk_frozen BKg5.out 8
          have hcg2_0 : W11.cell? ⟨g2, 0, none⟩ = some (.bool ma) := (blk_cell BKg2.out 0).trans rfl
          have hfg2_0 := blk_frozen BKg2.out 0
          have hcg2_1 : W11.cell? ⟨g2, 1, none⟩ = some (.int .i64 ((cdig A) 0)) := (blk_cell BKg2.out 1).trans rfl
          have hfg2_1 := blk_frozen BKg2.out 1
          have hcg2_2 : W11.cell? ⟨g2, 2, none⟩ = some (.int .i64 ((cdig A) 1)) := (blk_cell BKg2.out 2).trans rfl
          have hfg2_2 := blk_frozen BKg2.out 2
          have hcg2_3 : W11.cell? ⟨g2, 3, none⟩ = some (.int .i64 ((cdig A) 2)) := (blk_cell BKg2.out 3).trans rfl
          have hfg2_3 := blk_frozen BKg2.out 3
          have hcg2_4 : W11.cell? ⟨g2, 4, none⟩ = some (.int .i64 ((cdig A) 3)) := (blk_cell BKg2.out 4).trans rfl
          have hfg2_4 := blk_frozen BKg2.out 4
          have hcg2_5 : W11.cell? ⟨g2, 5, none⟩ = some (.int .i64 ((cdig A) 4)) := (blk_cell BKg2.out 5).trans rfl
          have hfg2_5 := blk_frozen BKg2.out 5
          have hcg2_6 : W11.cell? ⟨g2, 6, none⟩ = some (.int .i64 ((cdig A) 5)) := (blk_cell BKg2.out 6).trans rfl
          have hfg2_6 := blk_frozen BKg2.out 6
          have hcg2_7 : W11.cell? ⟨g2, 7, none⟩ = some (.int .i64 ((cdig A) 6)) := (blk_cell BKg2.out 7).trans rfl
          have hfg2_7 := blk_frozen BKg2.out 7
          have hcg2_8 : W11.cell? ⟨g2, 8, none⟩ = some (.int .i64 ((cdig A) 7)) := (blk_cell BKg2.out 8).trans rfl
          have hfg2_8 := blk_frozen BKg2.out 8
          have hcg3_0 : W11.cell? ⟨g3, 0, none⟩ = some (.bool mb) := (blk_cell BKg3.out 0).trans rfl
          have hfg3_0 := blk_frozen BKg3.out 0
          have hcg3_1 : W11.cell? ⟨g3, 1, none⟩ = some (.int .i64 ((cdig B) 0)) := (blk_cell BKg3.out 1).trans rfl
          have hfg3_1 := blk_frozen BKg3.out 1
          have hcg3_2 : W11.cell? ⟨g3, 2, none⟩ = some (.int .i64 ((cdig B) 1)) := (blk_cell BKg3.out 2).trans rfl
          have hfg3_2 := blk_frozen BKg3.out 2
          have hcg3_3 : W11.cell? ⟨g3, 3, none⟩ = some (.int .i64 ((cdig B) 2)) := (blk_cell BKg3.out 3).trans rfl
          have hfg3_3 := blk_frozen BKg3.out 3
          have hcg3_4 : W11.cell? ⟨g3, 4, none⟩ = some (.int .i64 ((cdig B) 3)) := (blk_cell BKg3.out 4).trans rfl
          have hfg3_4 := blk_frozen BKg3.out 4
          have hcg3_5 : W11.cell? ⟨g3, 5, none⟩ = some (.int .i64 ((cdig B) 4)) := (blk_cell BKg3.out 5).trans rfl
          have hfg3_5 := blk_frozen BKg3.out 5
          have hcg3_6 : W11.cell? ⟨g3, 6, none⟩ = some (.int .i64 ((cdig B) 5)) := (blk_cell BKg3.out 6).trans rfl
          have hfg3_6 := blk_frozen BKg3.out 6
          have hcg3_7 : W11.cell? ⟨g3, 7, none⟩ = some (.int .i64 ((cdig B) 6)) := (blk_cell BKg3.out 7).trans rfl
          have hfg3_7 := blk_frozen BKg3.out 7
          have hcg3_8 : W11.cell? ⟨g3, 8, none⟩ = some (.int .i64 ((cdig B) 7)) := (blk_cell BKg3.out 8).trans rfl
          have hfg3_8 := blk_frozen BKg3.out 8
          have hcg4_0 : W11.cell? ⟨g4, 0, none⟩ = some (.bool false) := (blk_cell BKg4.out 0).trans rfl
          have hfg4_0 := blk_frozen BKg4.out 0
          have hcg4_1 : W11.cell? ⟨g4, 1, none⟩ = some (.int .i64 0) := (blk_cell BKg4.out 1).trans rfl
          have hfg4_1 := blk_frozen BKg4.out 1
          have hcg4_2 : W11.cell? ⟨g4, 2, none⟩ = some (.int .i64 0) := (blk_cell BKg4.out 2).trans rfl
          have hfg4_2 := blk_frozen BKg4.out 2
          have hcg4_3 : W11.cell? ⟨g4, 3, none⟩ = some (.int .i64 0) := (blk_cell BKg4.out 3).trans rfl
          have hfg4_3 := blk_frozen BKg4.out 3
          have hcg4_4 : W11.cell? ⟨g4, 4, none⟩ = some (.int .i64 0) := (blk_cell BKg4.out 4).trans rfl
          have hfg4_4 := blk_frozen BKg4.out 4
          have hcg4_5 : W11.cell? ⟨g4, 5, none⟩ = some (.int .i64 0) := (blk_cell BKg4.out 5).trans rfl
          have hfg4_5 := blk_frozen BKg4.out 5
          have hcg4_6 : W11.cell? ⟨g4, 6, none⟩ = some (.int .i64 0) := (blk_cell BKg4.out 6).trans rfl
          have hfg4_6 := blk_frozen BKg4.out 6
          have hcg4_7 : W11.cell? ⟨g4, 7, none⟩ = some (.int .i64 0) := (blk_cell BKg4.out 7).trans rfl
          have hfg4_7 := blk_frozen BKg4.out 7
          have hcg4_8 : W11.cell? ⟨g4, 8, none⟩ = some (.int .i64 0) := (blk_cell BKg4.out 8).trans rfl
          have hfg4_8 := blk_frozen BKg4.out 8
          go_wp2
          have n_ : Aside0 ((((((((((W11.setCell ⟨g5, 0, none⟩ (.bool (!(ma == mb)))).setCell ⟨g5, 1, none⟩ (.int .i64 ((cdig q2) 0))).setCell ⟨g5, 2, none⟩ (.int .i64 ((cdig q2) 1))).setCell ⟨g5, 3, none⟩ (.int .i64 ((cdig q2) 2))).setCell ⟨g5, 4, none⟩ (.int .i64 ((cdig q2) 3))).setCell ⟨g5, 5, none⟩ (.int .i64 ((cdig q2) 4))).setCell ⟨g5, 6, none⟩ (.int .i64 ((cdig q2) 5))).setCell ⟨g5, 7, none⟩ (.int .i64 ((cdig q2) 6))).setCell ⟨g5, 8, none⟩ (.int .i64 ((cdig q2) 7))).heap[g5]? = some (.cells #[.bool (!(ma == mb)), .int .i64 ((cdig q2) 0), .int .i64 ((cdig q2) 1), .int .i64 ((cdig q2) 2), .int .i64 ((cdig q2) 3), .int .i64 ((cdig q2) 4), .int .i64 ((cdig q2) 5), .int .i64 ((cdig q2) 6), .int .i64 ((cdig q2) 7)] 60 (0, 0))) := ⟨by refine blk_put (cs := #[.bool (!(ma == mb)), .int .i64 ((cdig q2) 0), .int .i64 ((cdig q2) 1), .int .i64 ((cdig q2) 2), .int .i64 ((cdig q2) 3), .int .i64 ((cdig q2) 4), .int .i64 ((cdig q2) 5), .int .i64 ((cdig q2) 6), .int .i64 ((cdig q) 7)]) ?_ 8 _ rfl; refine blk_put (cs := #[.bool (!(ma == mb)), .int .i64 ((cdig q2) 0), .int .i64 ((cdig q2) 1), .int .i64 ((cdig q2) 2), .int .i64 ((cdig q2) 3), .int .i64 ((cdig q2) 4), .int .i64 ((cdig q2) 5), .int .i64 ((cdig q) 6), .int .i64 ((cdig q) 7)]) ?_ 7 _ rfl; refine blk_put (cs := #[.bool (!(ma == mb)), .int .i64 ((cdig q2) 0), .int .i64 ((cdig q2) 1), .int .i64 ((cdig q2) 2), .int .i64 ((cdig q2) 3), .int .i64 ((cdig q2) 4), .int .i64 ((cdig q) 5), .int .i64 ((cdig q) 6), .int .i64 ((cdig q) 7)]) ?_ 6 _ rfl; refine blk_put (cs := #[.bool (!(ma == mb)), .int .i64 ((cdig q2) 0), .int .i64 ((cdig q2) 1), .int .i64 ((cdig q2) 2), .int .i64 ((cdig q2) 3), .int .i64 ((cdig q) 4), .int .i64 ((cdig q) 5), .int .i64 ((cdig q) 6), .int .i64 ((cdig q) 7)]) ?_ 5 _ rfl; refine blk_put (cs := #[.bool (!(ma == mb)), .int .i64 ((cdig q2) 0), .int .i64 ((cdig q2) 1), .int .i64 ((cdig q2) 2), .int .i64 ((cdig q) 3), .int .i64 ((cdig q) 4), .int .i64 ((cdig q) 5), .int .i64 ((cdig q) 6), .int .i64 ((cdig q) 7)]) ?_ 4 _ rfl; refine blk_put (cs := #[.bool (!(ma == mb)), .int .i64 ((cdig q2) 0), .int .i64 ((cdig q2) 1), .int .i64 ((cdig q) 2), .int .i64 ((cdig q) 3), .int .i64 ((cdig q) 4), .int .i64 ((cdig q) 5), .int .i64 ((cdig q) 6), .int .i64 ((cdig q) 7)]) ?_ 3 _ rfl; refine blk_put (cs := #[.bool (!(ma == mb)), .int .i64 ((cdig q2) 0), .int .i64 ((cdig q) 1), .int .i64 ((cdig q) 2), .int .i64 ((cdig q) 3), .int .i64 ((cdig q) 4), .int .i64 ((cdig q) 5), .int .i64 ((cdig q) 6), .int .i64 ((cdig q) 7)]) ?_ 2 _ rfl; refine blk_put (cs := #[.bool (!(ma == mb)), .int .i64 ((cdig q) 0), .int .i64 ((cdig q) 1), .int .i64 ((cdig q) 2), .int .i64 ((cdig q) 3), .int .i64 ((cdig q) 4), .int .i64 ((cdig q) 5), .int .i64 ((cdig q) 6), .int .i64 ((cdig q) 7)]) ?_ 1 _ rfl; refine blk_put (cs := #[.bool (!(ma == mb)), .int .i64 ((cdig q) 0), .int .i64 ((cdig q) 1), .int .i64 ((cdig q) 2), .int .i64 ((cdig q) 3), .int .i64 ((cdig q) 4), .int .i64 ((cdig q) 5), .int .i64 ((cdig q) 6), .int .i64 ((cdig q) 7)]) ?_ 0 _ rfl; exact BKg5.out⟩
          have m_ : Aside0 ((((((((((W11.setCell ⟨g5, 0, none⟩ (.bool (!(ma == mb)))).setCell ⟨g5, 1, none⟩ (.int .i64 ((cdig q2) 0))).setCell ⟨g5, 2, none⟩ (.int .i64 ((cdig q2) 1))).setCell ⟨g5, 3, none⟩ (.int .i64 ((cdig q2) 2))).setCell ⟨g5, 4, none⟩ (.int .i64 ((cdig q2) 3))).setCell ⟨g5, 5, none⟩ (.int .i64 ((cdig q2) 4))).setCell ⟨g5, 6, none⟩ (.int .i64 ((cdig q2) 5))).setCell ⟨g5, 7, none⟩ (.int .i64 ((cdig q2) 6))).setCell ⟨g5, 8, none⟩ (.int .i64 ((cdig q2) 7))).heap[g6]? = some (.cells #[.bool false, .int .i64 ((cdig z) 0), .int .i64 ((cdig z) 1), .int .i64 ((cdig z) 2), .int .i64 ((cdig z) 3), .int .i64 ((cdig z) 4), .int .i64 ((cdig z) 5), .int .i64 ((cdig z) 6), .int .i64 ((cdig z) 7)] 60 (0, 0))) := ⟨(blk_far (blk_far (blk_far (blk_far (blk_far (blk_far (blk_far (blk_far (blk_far BKg6.out NBg6_g5 _) NBg6_g5 _) NBg6_g5 _) NBg6_g5 _) NBg6_g5 _) NBg6_g5 _) NBg6_g5 _) NBg6_g5 _) NBg6_g5 _)⟩
          clear BKg6; have BKg6 := m_; clear m_
          have m_ : Aside0 ((((((((((W11.setCell ⟨g5, 0, none⟩ (.bool (!(ma == mb)))).setCell ⟨g5, 1, none⟩ (.int .i64 ((cdig q2) 0))).setCell ⟨g5, 2, none⟩ (.int .i64 ((cdig q2) 1))).setCell ⟨g5, 3, none⟩ (.int .i64 ((cdig q2) 2))).setCell ⟨g5, 4, none⟩ (.int .i64 ((cdig q2) 3))).setCell ⟨g5, 5, none⟩ (.int .i64 ((cdig q2) 4))).setCell ⟨g5, 6, none⟩ (.int .i64 ((cdig q2) 5))).setCell ⟨g5, 7, none⟩ (.int .i64 ((cdig q2) 6))).setCell ⟨g5, 8, none⟩ (.int .i64 ((cdig q2) 7))).heap[g2]? = some (.cells (bigA ma (cdig A)) 60 (0, 0))) := ⟨(blk_far (blk_far (blk_far (blk_far (blk_far (blk_far (blk_far (blk_far (blk_far BKg2.out NBg2_g5 _) NBg2_g5 _) NBg2_g5 _) NBg2_g5 _) NBg2_g5 _) NBg2_g5 _) NBg2_g5 _) NBg2_g5 _) NBg2_g5 _)⟩
          clear BKg2; have BKg2 := m_; clear m_
          have m_ : Aside0 ((((((((((W11.setCell ⟨g5, 0, none⟩ (.bool (!(ma == mb)))).setCell ⟨g5, 1, none⟩ (.int .i64 ((cdig q2) 0))).setCell ⟨g5, 2, none⟩ (.int .i64 ((cdig q2) 1))).setCell ⟨g5, 3, none⟩ (.int .i64 ((cdig q2) 2))).setCell ⟨g5, 4, none⟩ (.int .i64 ((cdig q2) 3))).setCell ⟨g5, 5, none⟩ (.int .i64 ((cdig q2) 4))).setCell ⟨g5, 6, none⟩ (.int .i64 ((cdig q2) 5))).setCell ⟨g5, 7, none⟩ (.int .i64 ((cdig q2) 6))).setCell ⟨g5, 8, none⟩ (.int .i64 ((cdig q2) 7))).heap[g3]? = some (.cells (bigA mb (cdig B)) 60 (0, 0))) := ⟨(blk_far (blk_far (blk_far (blk_far (blk_far (blk_far (blk_far (blk_far (blk_far BKg3.out NBg3_g5 _) NBg3_g5 _) NBg3_g5 _) NBg3_g5 _) NBg3_g5 _) NBg3_g5 _) NBg3_g5 _) NBg3_g5 _) NBg3_g5 _)⟩
          clear BKg3; have BKg3 := m_; clear m_
          have m_ : Aside0 ((((((((((W11.setCell ⟨g5, 0, none⟩ (.bool (!(ma == mb)))).setCell ⟨g5, 1, none⟩ (.int .i64 ((cdig q2) 0))).setCell ⟨g5, 2, none⟩ (.int .i64 ((cdig q2) 1))).setCell ⟨g5, 3, none⟩ (.int .i64 ((cdig q2) 2))).setCell ⟨g5, 4, none⟩ (.int .i64 ((cdig q2) 3))).setCell ⟨g5, 5, none⟩ (.int .i64 ((cdig q2) 4))).setCell ⟨g5, 6, none⟩ (.int .i64 ((cdig q2) 5))).setCell ⟨g5, 7, none⟩ (.int .i64 ((cdig q2) 6))).setCell ⟨g5, 8, none⟩ (.int .i64 ((cdig q2) 7))).heap[g4]? = some (.cells #[.bool false, .int .i64 0, .int .i64 0, .int .i64 0, .int .i64 0, .int .i64 0, .int .i64 0, .int .i64 0, .int .i64 0] 60 (0, 0))) := ⟨(blk_far (blk_far (blk_far (blk_far (blk_far (blk_far (blk_far (blk_far (blk_far BKg4.out NBg4_g5 _) NBg4_g5 _) NBg4_g5 _) NBg4_g5 _) NBg4_g5 _) NBg4_g5 _) NBg4_g5 _) NBg4_g5 _) NBg4_g5 _)⟩
          clear BKg4; have BKg4 := m_; clear m_
          have b_ : Aside0 (Below w.heap.size w (((((((((W11.setCell ⟨g5, 0, none⟩ (.bool (!(ma == mb)))).setCell ⟨g5, 1, none⟩ (.int .i64 ((cdig q2) 0))).setCell ⟨g5, 2, none⟩ (.int .i64 ((cdig q2) 1))).setCell ⟨g5, 3, none⟩ (.int .i64 ((cdig q2) 2))).setCell ⟨g5, 4, none⟩ (.int .i64 ((cdig q2) 3))).setCell ⟨g5, 5, none⟩ (.int .i64 ((cdig q2) 4))).setCell ⟨g5, 6, none⟩ (.int .i64 ((cdig q2) 5))).setCell ⟨g5, 7, none⟩ (.int .i64 ((cdig q2) 6))).setCell ⟨g5, 8, none⟩ (.int .i64 ((cdig q2) 7)))) := ⟨(below_set (below_set (below_set (below_set (below_set (below_set (below_set (below_set (below_set HB.out GEg5.out) GEg5.out) GEg5.out) GEg5.out) GEg5.out) GEg5.out) GEg5.out) GEg5.out) GEg5.out)⟩
          clear BKg5 HB; have BKg5 := n_; have HB := b_; clear n_ b_
          clear hcg6_0 hfg6_0
          clear hcg6_1 hfg6_1
          clear hcg6_2 hfg6_2
          clear hcg6_3 hfg6_3
          clear hcg6_4 hfg6_4
          clear hcg6_5 hfg6_5
          clear hcg6_6 hfg6_6
          clear hcg6_7 hfg6_7
          clear hcg6_8 hfg6_8
          clear hcg5_0 hfg5_0
          clear hcg5_1 hfg5_1
          clear hcg5_2 hfg5_2
          clear hcg5_3 hfg5_3
          clear hcg5_4 hfg5_4
          clear hcg5_5 hfg5_5
          clear hcg5_6 hfg5_6
          clear hcg5_7 hfg5_7
          clear hcg5_8 hfg5_8
          clear hcg2_0 hfg2_0
          clear hcg2_1 hfg2_1
          clear hcg2_2 hfg2_2
          clear hcg2_3 hfg2_3
          clear hcg2_4 hfg2_4
          clear hcg2_5 hfg2_5
          clear hcg2_6 hfg2_6
          clear hcg2_7 hfg2_7
          clear hcg2_8 hfg2_8
          clear hcg3_0 hfg3_0
          clear hcg3_1 hfg3_1
          clear hcg3_2 hfg3_2
          clear hcg3_3 hfg3_3
          clear hcg3_4 hfg3_4
          clear hcg3_5 hfg3_5
          clear hcg3_6 hfg3_6
          clear hcg3_7 hfg3_7
          clear hcg3_8 hfg3_8
          clear hcg4_0 hfg4_0
          clear hcg4_1 hfg4_1
          clear hcg4_2 hfg4_2
          clear hcg4_3 hfg4_3
          clear hcg4_4 hfg4_4
          clear hcg4_5 hfg4_5
          clear hcg4_6 hfg4_6
          clear hcg4_7 hfg4_7
          clear hcg4_8 hfg4_8
          generalize (((((((((W11.setCell ⟨g5, 0, none⟩ (.bool (!(ma == mb)))).setCell ⟨g5, 1, none⟩ (.int .i64 ((cdig q2) 0))).setCell ⟨g5, 2, none⟩ (.int .i64 ((cdig q2) 1))).setCell ⟨g5, 3, none⟩ (.int .i64 ((cdig q2) 2))).setCell ⟨g5, 4, none⟩ (.int .i64 ((cdig q2) 3))).setCell ⟨g5, 5, none⟩ (.int .i64 ((cdig q2) 4))).setCell ⟨g5, 6, none⟩ (.int .i64 ((cdig q2) 5))).setCell ⟨g5, 7, none⟩ (.int .i64 ((cdig q2) 6))).setCell ⟨g5, 8, none⟩ (.int .i64 ((cdig q2) 7))) = W12 at *
          have hcg6_0 : W12.cell? ⟨g6, 0, none⟩ = some (.bool false) := (blk_cell BKg6.out 0).trans rfl
          have hfg6_0 := blk_frozen BKg6.out 0
          have hcg6_1 : W12.cell? ⟨g6, 1, none⟩ = some (.int .i64 ((cdig z) 0)) := (blk_cell BKg6.out 1).trans rfl
          have hfg6_1 := blk_frozen BKg6.out 1
          have hcg6_2 : W12.cell? ⟨g6, 2, none⟩ = some (.int .i64 ((cdig z) 1)) := (blk_cell BKg6.out 2).trans rfl
          have hfg6_2 := blk_frozen BKg6.out 2
          have hcg6_3 : W12.cell? ⟨g6, 3, none⟩ = some (.int .i64 ((cdig z) 2)) := (blk_cell BKg6.out 3).trans rfl
          have hfg6_3 := blk_frozen BKg6.out 3
          have hcg6_4 : W12.cell? ⟨g6, 4, none⟩ = some (.int .i64 ((cdig z) 3)) := (blk_cell BKg6.out 4).trans rfl
          have hfg6_4 := blk_frozen BKg6.out 4
          have hcg6_5 : W12.cell? ⟨g6, 5, none⟩ = some (.int .i64 ((cdig z) 4)) := (blk_cell BKg6.out 5).trans rfl
          have hfg6_5 := blk_frozen BKg6.out 5
          have hcg6_6 : W12.cell? ⟨g6, 6, none⟩ = some (.int .i64 ((cdig z) 5)) := (blk_cell BKg6.out 6).trans rfl
          have hfg6_6 := blk_frozen BKg6.out 6
          have hcg6_7 : W12.cell? ⟨g6, 7, none⟩ = some (.int .i64 ((cdig z) 6)) := (blk_cell BKg6.out 7).trans rfl
          have hfg6_7 := blk_frozen BKg6.out 7
          have hcg6_8 : W12.cell? ⟨g6, 8, none⟩ = some (.int .i64 ((cdig z) 7)) := (blk_cell BKg6.out 8).trans rfl
          have hfg6_8 := blk_frozen BKg6.out 8
          have hcg5_0 : W12.cell? ⟨g5, 0, none⟩ = some (.bool (!(ma == mb))) := (blk_cell BKg5.out 0).trans rfl
          have hfg5_0 := blk_frozen BKg5.out 0
          have hcg5_1 : W12.cell? ⟨g5, 1, none⟩ = some (.int .i64 ((cdig q2) 0)) := (blk_cell BKg5.out 1).trans rfl
          have hfg5_1 := blk_frozen BKg5.out 1
          have hcg5_2 : W12.cell? ⟨g5, 2, none⟩ = some (.int .i64 ((cdig q2) 1)) := (blk_cell BKg5.out 2).trans rfl
          have hfg5_2 := blk_frozen BKg5.out 2
          have hcg5_3 : W12.cell? ⟨g5, 3, none⟩ = some (.int .i64 ((cdig q2) 2)) := (blk_cell BKg5.out 3).trans rfl
          have hfg5_3 := blk_frozen BKg5.out 3
          have hcg5_4 : W12.cell? ⟨g5, 4, none⟩ = some (.int .i64 ((cdig q2) 3)) := (blk_cell BKg5.out 4).trans rfl
          have hfg5_4 := blk_frozen BKg5.out 4
          have hcg5_5 : W12.cell? ⟨g5, 5, none⟩ = some (.int .i64 ((cdig q2) 4)) := (blk_cell BKg5.out 5).trans rfl
          have hfg5_5 := blk_frozen BKg5.out 5
          have hcg5_6 : W12.cell? ⟨g5, 6, none⟩ = some (.int .i64 ((cdig q2) 5)) := (blk_cell BKg5.out 6).trans rfl
          have hfg5_6 := blk_frozen BKg5.out 6
          have hcg5_7 : W12.cell? ⟨g5, 7, none⟩ = some (.int .i64 ((cdig q2) 6)) := (blk_cell BKg5.out 7).trans rfl
          have hfg5_7 := blk_frozen BKg5.out 7
          have hcg5_8 : W12.cell? ⟨g5, 8, none⟩ = some (.int .i64 ((cdig q2) 7)) := (blk_cell BKg5.out 8).trans rfl
          have hfg5_8 := blk_frozen BKg5.out 8
          have hcg2_0 : W12.cell? ⟨g2, 0, none⟩ = some (.bool ma) := (blk_cell BKg2.out 0).trans rfl
          have hfg2_0 := blk_frozen BKg2.out 0
          have hcg2_1 : W12.cell? ⟨g2, 1, none⟩ = some (.int .i64 ((cdig A) 0)) := (blk_cell BKg2.out 1).trans rfl
          have hfg2_1 := blk_frozen BKg2.out 1
          have hcg2_2 : W12.cell? ⟨g2, 2, none⟩ = some (.int .i64 ((cdig A) 1)) := (blk_cell BKg2.out 2).trans rfl
          have hfg2_2 := blk_frozen BKg2.out 2
          have hcg2_3 : W12.cell? ⟨g2, 3, none⟩ = some (.int .i64 ((cdig A) 2)) := (blk_cell BKg2.out 3).trans rfl
          have hfg2_3 := blk_frozen BKg2.out 3
          have hcg2_4 : W12.cell? ⟨g2, 4, none⟩ = some (.int .i64 ((cdig A) 3)) := (blk_cell BKg2.out 4).trans rfl
          have hfg2_4 := blk_frozen BKg2.out 4
          have hcg2_5 : W12.cell? ⟨g2, 5, none⟩ = some (.int .i64 ((cdig A) 4)) := (blk_cell BKg2.out 5).trans rfl
          have hfg2_5 := blk_frozen BKg2.out 5
          have hcg2_6 : W12.cell? ⟨g2, 6, none⟩ = some (.int .i64 ((cdig A) 5)) := (blk_cell BKg2.out 6).trans rfl
          have hfg2_6 := blk_frozen BKg2.out 6
          have hcg2_7 : W12.cell? ⟨g2, 7, none⟩ = some (.int .i64 ((cdig A) 6)) := (blk_cell BKg2.out 7).trans rfl
          have hfg2_7 := blk_frozen BKg2.out 7
          have hcg2_8 : W12.cell? ⟨g2, 8, none⟩ = some (.int .i64 ((cdig A) 7)) := (blk_cell BKg2.out 8).trans rfl
          have hfg2_8 := blk_frozen BKg2.out 8
          have hcg3_0 : W12.cell? ⟨g3, 0, none⟩ = some (.bool mb) := (blk_cell BKg3.out 0).trans rfl
          have hfg3_0 := blk_frozen BKg3.out 0
          have hcg3_1 : W12.cell? ⟨g3, 1, none⟩ = some (.int .i64 ((cdig B) 0)) := (blk_cell BKg3.out 1).trans rfl
          have hfg3_1 := blk_frozen BKg3.out 1
          have hcg3_2 : W12.cell? ⟨g3, 2, none⟩ = some (.int .i64 ((cdig B) 1)) := (blk_cell BKg3.out 2).trans rfl
          have hfg3_2 := blk_frozen BKg3.out 2
          have hcg3_3 : W12.cell? ⟨g3, 3, none⟩ = some (.int .i64 ((cdig B) 2)) := (blk_cell BKg3.out 3).trans rfl
          have hfg3_3 := blk_frozen BKg3.out 3
          have hcg3_4 : W12.cell? ⟨g3, 4, none⟩ = some (.int .i64 ((cdig B) 3)) := (blk_cell BKg3.out 4).trans rfl
          have hfg3_4 := blk_frozen BKg3.out 4
          have hcg3_5 : W12.cell? ⟨g3, 5, none⟩ = some (.int .i64 ((cdig B) 4)) := (blk_cell BKg3.out 5).trans rfl
          have hfg3_5 := blk_frozen BKg3.out 5
          have hcg3_6 : W12.cell? ⟨g3, 6, none⟩ = some (.int .i64 ((cdig B) 5)) := (blk_cell BKg3.out 6).trans rfl
          have hfg3_6 := blk_frozen BKg3.out 6
          have hcg3_7 : W12.cell? ⟨g3, 7, none⟩ = some (.int .i64 ((cdig B) 6)) := (blk_cell BKg3.out 7).trans rfl
          have hfg3_7 := blk_frozen BKg3.out 7
          have hcg3_8 : W12.cell? ⟨g3, 8, none⟩ = some (.int .i64 ((cdig B) 7)) := (blk_cell BKg3.out 8).trans rfl
          have hfg3_8 := blk_frozen BKg3.out 8
          have hcg4_0 : W12.cell? ⟨g4, 0, none⟩ = some (.bool false) := (blk_cell BKg4.out 0).trans rfl
          have hfg4_0 := blk_frozen BKg4.out 0
          have hcg4_1 : W12.cell? ⟨g4, 1, none⟩ = some (.int .i64 0) := (blk_cell BKg4.out 1).trans rfl
          have hfg4_1 := blk_frozen BKg4.out 1
          have hcg4_2 : W12.cell? ⟨g4, 2, none⟩ = some (.int .i64 0) := (blk_cell BKg4.out 2).trans rfl
          have hfg4_2 := blk_frozen BKg4.out 2
          have hcg4_3 : W12.cell? ⟨g4, 3, none⟩ = some (.int .i64 0) := (blk_cell BKg4.out 3).trans rfl
          have hfg4_3 := blk_frozen BKg4.out 3
          have hcg4_4 : W12.cell? ⟨g4, 4, none⟩ = some (.int .i64 0) := (blk_cell BKg4.out 4).trans rfl
          have hfg4_4 := blk_frozen BKg4.out 4
          have hcg4_5 : W12.cell? ⟨g4, 5, none⟩ = some (.int .i64 0) := (blk_cell BKg4.out 5).trans rfl
          have hfg4_5 := blk_frozen BKg4.out 5
          have hcg4_6 : W12.cell? ⟨g4, 6, none⟩ = some (.int .i64 0) := (blk_cell BKg4.out 6).trans rfl
          have hfg4_6 := blk_frozen BKg4.out 6
          have hcg4_7 : W12.cell? ⟨g4, 7, none⟩ = some (.int .i64 0) := (blk_cell BKg4.out 7).trans rfl
          have hfg4_7 := blk_frozen BKg4.out 7
          have hcg4_8 : W12.cell? ⟨g4, 8, none⟩ = some (.int .i64 0) := (blk_cell BKg4.out 8).trans rfl
          have hfg4_8 := blk_frozen BKg4.out 8
          exact ⟨⟨k, q2, z, rfl, ⟨by omega⟩, HN, BKg6, BKg5, BKg2, BKg3, BKg4, HB⟩, by simp [intOf]⟩
        ·
          have hd : decide (0 ≤ cmpI x B) = false := by unfold cmpI; rw [if_pos (by omega)]; rfl
          go_wp2_with fail
          ((with_reducible refine (compare_ex false mb x B _ hxr hb).mono ?_); rintro e_ W28 ⟨rfl, hb_⟩)
          have n_ := Aside0.mk (blk_below BKg6.out hb_); clear BKg6; have BKg6 := n_; clear n_
          clear hcg6_0 hfg6_0
          clear hcg6_1 hfg6_1
          clear hcg6_2 hfg6_2
          clear hcg6_3 hfg6_3
          clear hcg6_4 hfg6_4
          clear hcg6_5 hfg6_5
          clear hcg6_6 hfg6_6
          clear hcg6_7 hfg6_7
          clear hcg6_8 hfg6_8
          have n_ := Aside0.mk (blk_below BKg5.out hb_); clear BKg5; have BKg5 := n_; clear n_
          clear hcg5_0 hfg5_0
          clear hcg5_1 hfg5_1
          clear hcg5_2 hfg5_2
          clear hcg5_3 hfg5_3
          clear hcg5_4 hfg5_4
          clear hcg5_5 hfg5_5
          clear hcg5_6 hfg5_6
          clear hcg5_7 hfg5_7
          clear hcg5_8 hfg5_8
          have n_ := Aside0.mk (blk_below BKg2.out hb_); clear BKg2; have BKg2 := n_; clear n_
          clear hcg2_0 hfg2_0
          clear hcg2_1 hfg2_1
          clear hcg2_2 hfg2_2
          clear hcg2_3 hfg2_3
          clear hcg2_4 hfg2_4
          clear hcg2_5 hfg2_5
          clear hcg2_6 hfg2_6
          clear hcg2_7 hfg2_7
          clear hcg2_8 hfg2_8
          have n_ := Aside0.mk (blk_below BKg3.out hb_); clear BKg3; have BKg3 := n_; clear n_
          clear hcg3_0 hfg3_0
          clear hcg3_1 hfg3_1
          clear hcg3_2 hfg3_2
          clear hcg3_3 hfg3_3
          clear hcg3_4 hfg3_4
          clear hcg3_5 hfg3_5
          clear hcg3_6 hfg3_6
          clear hcg3_7 hfg3_7
          clear hcg3_8 hfg3_8
          have n_ := Aside0.mk (blk_below BKg4.out hb_); clear BKg4; have BKg4 := n_; clear n_
          clear hcg4_0 hfg4_0
          clear hcg4_1 hfg4_1
          clear hcg4_2 hfg4_2
          clear hcg4_3 hfg4_3
          clear hcg4_4 hfg4_4
          clear hcg4_5 hfg4_5
          clear hcg4_6 hfg4_6
          clear hcg4_7 hfg4_7
          clear hcg4_8 hfg4_8
          have n_ := Aside0.mk (below_step HB.out hb_); clear HB; have HB := n_; clear n_
          clear hb_
          have hcg6_0 : W28.cell? ⟨g6, 0, none⟩ = some (.bool false) := (blk_cell BKg6.out 0).trans rfl
          have hfg6_0 := blk_frozen BKg6.out 0
          have hcg6_1 : W28.cell? ⟨g6, 1, none⟩ = some (.int .i64 ((cdig x) 0)) := (blk_cell BKg6.out 1).trans rfl
          have hfg6_1 := blk_frozen BKg6.out 1
          have hcg6_2 : W28.cell? ⟨g6, 2, none⟩ = some (.int .i64 ((cdig x) 1)) := (blk_cell BKg6.out 2).trans rfl
          have hfg6_2 := blk_frozen BKg6.out 2
          have hcg6_3 : W28.cell? ⟨g6, 3, none⟩ = some (.int .i64 ((cdig x) 2)) := (blk_cell BKg6.out 3).trans rfl
          have hfg6_3 := blk_frozen BKg6.out 3
          have hcg6_4 : W28.cell? ⟨g6, 4, none⟩ = some (.int .i64 ((cdig x) 3)) := (blk_cell BKg6.out 4).trans rfl
          have hfg6_4 := blk_frozen BKg6.out 4
          have hcg6_5 : W28.cell? ⟨g6, 5, none⟩ = some (.int .i64 ((cdig x) 4)) := (blk_cell BKg6.out 5).trans rfl
          have hfg6_5 := blk_frozen BKg6.out 5
          have hcg6_6 : W28.cell? ⟨g6, 6, none⟩ = some (.int .i64 ((cdig x) 5)) := (blk_cell BKg6.out 6).trans rfl
          have hfg6_6 := blk_frozen BKg6.out 6
          have hcg6_7 : W28.cell? ⟨g6, 7, none⟩ = some (.int .i64 ((cdig x) 6)) := (blk_cell BKg6.out 7).trans rfl
          have hfg6_7 := blk_frozen BKg6.out 7
          have hcg6_8 : W28.cell? ⟨g6, 8, none⟩ = some (.int .i64 ((cdig x) 7)) := (blk_cell BKg6.out 8).trans rfl
          have hfg6_8 := blk_frozen BKg6.out 8
          have hcg5_0 : W28.cell? ⟨g5, 0, none⟩ = some (.bool (!(ma == mb))) := (blk_cell BKg5.out 0).trans rfl
          have hfg5_0 := blk_frozen BKg5.out 0
          have hcg5_1 : W28.cell? ⟨g5, 1, none⟩ = some (.int .i64 ((cdig q) 0)) := (blk_cell BKg5.out 1).trans rfl
          have hfg5_1 := blk_frozen BKg5.out 1
          have hcg5_2 : W28.cell? ⟨g5, 2, none⟩ = some (.int .i64 ((cdig q) 1)) := (blk_cell BKg5.out 2).trans rfl
          have hfg5_2 := blk_frozen BKg5.out 2
          have hcg5_3 : W28.cell? ⟨g5, 3, none⟩ = some (.int .i64 ((cdig q) 2)) := (blk_cell BKg5.out 3).trans rfl
          have hfg5_3 := blk_frozen BKg5.out 3
          have hcg5_4 : W28.cell? ⟨g5, 4, none⟩ = some (.int .i64 ((cdig q) 3)) := (blk_cell BKg5.out 4).trans rfl
          have hfg5_4 := blk_frozen BKg5.out 4
          have hcg5_5 : W28.cell? ⟨g5, 5, none⟩ = some (.int .i64 ((cdig q) 4)) := (blk_cell BKg5.out 5).trans rfl
          have hfg5_5 := blk_frozen BKg5.out 5
          have hcg5_6 : W28.cell? ⟨g5, 6, none⟩ = some (.int .i64 ((cdig q) 5)) := (blk_cell BKg5.out 6).trans rfl
          have hfg5_6 := blk_frozen BKg5.out 6
          have hcg5_7 : W28.cell? ⟨g5, 7, none⟩ = some (.int .i64 ((cdig q) 6)) := (blk_cell BKg5.out 7).trans rfl
          have hfg5_7 := blk_frozen BKg5.out 7
          have hcg5_8 : W28.cell? ⟨g5, 8, none⟩ = some (.int .i64 ((cdig q) 7)) := (blk_cell BKg5.out 8).trans rfl
          have hfg5_8 := blk_frozen BKg5.out 8
          have hcg2_0 : W28.cell? ⟨g2, 0, none⟩ = some (.bool ma) := (blk_cell BKg2.out 0).trans rfl
          have hfg2_0 := blk_frozen BKg2.out 0
          have hcg2_1 : W28.cell? ⟨g2, 1, none⟩ = some (.int .i64 ((cdig A) 0)) := (blk_cell BKg2.out 1).trans rfl
          have hfg2_1 := blk_frozen BKg2.out 1
          have hcg2_2 : W28.cell? ⟨g2, 2, none⟩ = some (.int .i64 ((cdig A) 1)) := (blk_cell BKg2.out 2).trans rfl
          have hfg2_2 := blk_frozen BKg2.out 2
          have hcg2_3 : W28.cell? ⟨g2, 3, none⟩ = some (.int .i64 ((cdig A) 2)) := (blk_cell BKg2.out 3).trans rfl
          have hfg2_3 := blk_frozen BKg2.out 3
          have hcg2_4 : W28.cell? ⟨g2, 4, none⟩ = some (.int .i64 ((cdig A) 3)) := (blk_cell BKg2.out 4).trans rfl
          have hfg2_4 := blk_frozen BKg2.out 4
          have hcg2_5 : W28.cell? ⟨g2, 5, none⟩ = some (.int .i64 ((cdig A) 4)) := (blk_cell BKg2.out 5).trans rfl
          have hfg2_5 := blk_frozen BKg2.out 5
          have hcg2_6 : W28.cell? ⟨g2, 6, none⟩ = some (.int .i64 ((cdig A) 5)) := (blk_cell BKg2.out 6).trans rfl
          have hfg2_6 := blk_frozen BKg2.out 6
          have hcg2_7 : W28.cell? ⟨g2, 7, none⟩ = some (.int .i64 ((cdig A) 6)) := (blk_cell BKg2.out 7).trans rfl
          have hfg2_7 := blk_frozen BKg2.out 7
          have hcg2_8 : W28.cell? ⟨g2, 8, none⟩ = some (.int .i64 ((cdig A) 7)) := (blk_cell BKg2.out 8).trans rfl
          have hfg2_8 := blk_frozen BKg2.out 8
          have hcg3_0 : W28.cell? ⟨g3, 0, none⟩ = some (.bool mb) := (blk_cell BKg3.out 0).trans rfl
          have hfg3_0 := blk_frozen BKg3.out 0
          have hcg3_1 : W28.cell? ⟨g3, 1, none⟩ = some (.int .i64 ((cdig B) 0)) := (blk_cell BKg3.out 1).trans rfl
          have hfg3_1 := blk_frozen BKg3.out 1
          have hcg3_2 : W28.cell? ⟨g3, 2, none⟩ = some (.int .i64 ((cdig B) 1)) := (blk_cell BKg3.out 2).trans rfl
          have hfg3_2 := blk_frozen BKg3.out 2
          have hcg3_3 : W28.cell? ⟨g3, 3, none⟩ = some (.int .i64 ((cdig B) 2)) := (blk_cell BKg3.out 3).trans rfl
          have hfg3_3 := blk_frozen BKg3.out 3
          have hcg3_4 : W28.cell? ⟨g3, 4, none⟩ = some (.int .i64 ((cdig B) 3)) := (blk_cell BKg3.out 4).trans rfl
          have hfg3_4 := blk_frozen BKg3.out 4
          have hcg3_5 : W28.cell? ⟨g3, 5, none⟩ = some (.int .i64 ((cdig B) 4)) := (blk_cell BKg3.out 5).trans rfl
          have hfg3_5 := blk_frozen BKg3.out 5
          have hcg3_6 : W28.cell? ⟨g3, 6, none⟩ = some (.int .i64 ((cdig B) 5)) := (blk_cell BKg3.out 6).trans rfl
          have hfg3_6 := blk_frozen BKg3.out 6
          have hcg3_7 : W28.cell? ⟨g3, 7, none⟩ = some (.int .i64 ((cdig B) 6)) := (blk_cell BKg3.out 7).trans rfl
          have hfg3_7 := blk_frozen BKg3.out 7
          have hcg3_8 : W28.cell? ⟨g3, 8, none⟩ = some (.int .i64 ((cdig B) 7)) := (blk_cell BKg3.out 8).trans rfl
          have hfg3_8 := blk_frozen BKg3.out 8
          have hcg4_0 : W28.cell? ⟨g4, 0, none⟩ = some (.bool false) := (blk_cell BKg4.out 0).trans rfl
          have hfg4_0 := blk_frozen BKg4.out 0
          have hcg4_1 : W28.cell? ⟨g4, 1, none⟩ = some (.int .i64 0) := (blk_cell BKg4.out 1).trans rfl
          have hfg4_1 := blk_frozen BKg4.out 1
          have hcg4_2 : W28.cell? ⟨g4, 2, none⟩ = some (.int .i64 0) := (blk_cell BKg4.out 2).trans rfl
          have hfg4_2 := blk_frozen BKg4.out 2
          have hcg4_3 : W28.cell? ⟨g4, 3, none⟩ = some (.int .i64 0) := (blk_cell BKg4.out 3).trans rfl
          have hfg4_3 := blk_frozen BKg4.out 3
          have hcg4_4 : W28.cell? ⟨g4, 4, none⟩ = some (.int .i64 0) := (blk_cell BKg4.out 4).trans rfl
          have hfg4_4 := blk_frozen BKg4.out 4
          have hcg4_5 : W28.cell? ⟨g4, 5, none⟩ = some (.int .i64 0) := (blk_cell BKg4.out 5).trans rfl
          have hfg4_5 := blk_frozen BKg4.out 5
          have hcg4_6 : W28.cell? ⟨g4, 6, none⟩ = some (.int .i64 0) := (blk_cell BKg4.out 6).trans rfl
          have hfg4_6 := blk_frozen BKg4.out 6
          have hcg4_7 : W28.cell? ⟨g4, 7, none⟩ = some (.int .i64 0) := (blk_cell BKg4.out 7).trans rfl
          have hfg4_7 := blk_frozen BKg4.out 7
          have hcg4_8 : W28.cell? ⟨g4, 8, none⟩ = some (.int .i64 0) := (blk_cell BKg4.out 8).trans rfl
          have hfg4_8 := blk_frozen BKg4.out 8
          go_wp2_with fail
          have hqr : Rep (cdig q) q := rep_cdig HR.out.q0 (by have := HR.out.qA ha.nonneg; have := div_pow_le ha.nonneg (k + 1); have := ha.lt; omega)
          have hnx : OvR A B k (2 * q + 0) x := by have := HR.out.stay (by rw [← HB01.out, ← HX.out]; omega); rw [← HB01.out, ← HX.out] at this; exact this
          have hqb : 2 * q + 0 < 340282366920938463463374607431768211456 := by have := hnx.qA ha.nonneg; have := div_pow_le ha.nonneg k; have := ha.lt; omega
          obtain ⟨q2, hq2⟩ : ∃ q2, q2 = 2 * q + 0 := ⟨_, rfl⟩
          rw [← hq2] at hnx
          have HN := Aside0.mk hnx; clear hnx; have HQ2 := Lib.hid hq2; clear hq2
          ((with_reducible refine (double_ex (!(ma == mb)) q 0 q2 _ hqr (by decide) (by decide) hqb HQ2.out).mono ?_); rintro e_ W29 ⟨rfl, hb_⟩)
          have n_ := Aside0.mk (blk_below BKg6.out hb_); clear BKg6; have BKg6 := n_; clear n_
          clear hcg6_0 hfg6_0
          clear hcg6_1 hfg6_1
          clear hcg6_2 hfg6_2
          clear hcg6_3 hfg6_3
          clear hcg6_4 hfg6_4
          clear hcg6_5 hfg6_5
          clear hcg6_6 hfg6_6
          clear hcg6_7 hfg6_7
          clear hcg6_8 hfg6_8
          have n_ := Aside0.mk (blk_below BKg5.out hb_); clear BKg5; have BKg5 := n_; clear n_
          clear hcg5_0 hfg5_0
          clear hcg5_1 hfg5_1
          clear hcg5_2 hfg5_2
          clear hcg5_3 hfg5_3
          clear hcg5_4 hfg5_4
          clear hcg5_5 hfg5_5
          clear hcg5_6 hfg5_6
          clear hcg5_7 hfg5_7
          clear hcg5_8 hfg5_8
          have n_ := Aside0.mk (blk_below BKg2.out hb_); clear BKg2; have BKg2 := n_; clear n_
          clear hcg2_0 hfg2_0
          clear hcg2_1 hfg2_1
          clear hcg2_2 hfg2_2
          clear hcg2_3 hfg2_3
          clear hcg2_4 hfg2_4
          clear hcg2_5 hfg2_5
          clear hcg2_6 hfg2_6
          clear hcg2_7 hfg2_7
          clear hcg2_8 hfg2_8
          have n_ := Aside0.mk (blk_below BKg3.out hb_); clear BKg3; have BKg3 := n_; clear n_
          clear hcg3_0 hfg3_0
          clear hcg3_1 hfg3_1
          clear hcg3_2 hfg3_2
          clear hcg3_3 hfg3_3
          clear hcg3_4 hfg3_4
          clear hcg3_5 hfg3_5
          clear hcg3_6 hfg3_6
          clear hcg3_7 hfg3_7
          clear hcg3_8 hfg3_8
          have n_ := Aside0.mk (blk_below BKg4.out hb_); clear BKg4; have BKg4 := n_; clear n_
          clear hcg4_0 hfg4_0
          clear hcg4_1 hfg4_1
          clear hcg4_2 hfg4_2
          clear hcg4_3 hfg4_3
          clear hcg4_4 hfg4_4
          clear hcg4_5 hfg4_5
          clear hcg4_6 hfg4_6
          clear hcg4_7 hfg4_7
          clear hcg4_8 hfg4_8
          have n_ := Aside0.mk (below_step HB.out hb_); clear HB; have HB := n_; clear n_
          clear hb_
          have hcg6_0 : W29.cell? ⟨g6, 0, none⟩ = some (.bool false) := (blk_cell BKg6.out 0).trans rfl
          have hfg6_0 := blk_frozen BKg6.out 0
          have hcg6_1 : W29.cell? ⟨g6, 1, none⟩ = some (.int .i64 ((cdig x) 0)) := (blk_cell BKg6.out 1).trans rfl
          have hfg6_1 := blk_frozen BKg6.out 1
          have hcg6_2 : W29.cell? ⟨g6, 2, none⟩ = some (.int .i64 ((cdig x) 1)) := (blk_cell BKg6.out 2).trans rfl
          have hfg6_2 := blk_frozen BKg6.out 2
          have hcg6_3 : W29.cell? ⟨g6, 3, none⟩ = some (.int .i64 ((cdig x) 2)) := (blk_cell BKg6.out 3).trans rfl
          have hfg6_3 := blk_frozen BKg6.out 3
          have hcg6_4 : W29.cell? ⟨g6, 4, none⟩ = some (.int .i64 ((cdig x) 3)) := (blk_cell BKg6.out 4).trans rfl
          have hfg6_4 := blk_frozen BKg6.out 4
          have hcg6_5 : W29.cell? ⟨g6, 5, none⟩ = some (.int .i64 ((cdig x) 4)) := (blk_cell BKg6.out 5).trans rfl
          have hfg6_5 := blk_frozen BKg6.out 5
          have hcg6_6 : W29.cell? ⟨g6, 6, none⟩ = some (.int .i64 ((cdig x) 5)) := (blk_cell BKg6.out 6).trans rfl
          have hfg6_6 := blk_frozen BKg6.out 6
          have hcg6_7 : W29.cell? ⟨g6, 7, none⟩ = some (.int .i64 ((cdig x) 6)) := (blk_cell BKg6.out 7).trans rfl
          have hfg6_7 := blk_frozen BKg6.out 7
          have hcg6_8 : W29.cell? ⟨g6, 8, none⟩ = some (.int .i64 ((cdig x) 7)) := (blk_cell BKg6.out 8).trans rfl
          have hfg6_8 := blk_frozen BKg6.out 8
          have hcg5_0 : W29.cell? ⟨g5, 0, none⟩ = some (.bool (!(ma == mb))) := (blk_cell BKg5.out 0).trans rfl
          have hfg5_0 := blk_frozen BKg5.out 0
          have hcg5_1 : W29.cell? ⟨g5, 1, none⟩ = some (.int .i64 ((cdig q) 0)) := (blk_cell BKg5.out 1).trans rfl
          have hfg5_1 := blk_frozen BKg5.out 1
          have hcg5_2 : W29.cell? ⟨g5, 2, none⟩ = some (.int .i64 ((cdig q) 1)) := (blk_cell BKg5.out 2).trans rfl
          have hfg5_2 := blk_frozen BKg5.out 2
          have hcg5_3 : W29.cell? ⟨g5, 3, none⟩ = some (.int .i64 ((cdig q) 2)) := (blk_cell BKg5.out 3).trans rfl
          have hfg5_3 := blk_frozen BKg5.out 3
          have hcg5_4 : W29.cell? ⟨g5, 4, none⟩ = some (.int .i64 ((cdig q) 3)) := (blk_cell BKg5.out 4).trans rfl
          have hfg5_4 := blk_frozen BKg5.out 4
          have hcg5_5 : W29.cell? ⟨g5, 5, none⟩ = some (.int .i64 ((cdig q) 4)) := (blk_cell BKg5.out 5).trans rfl
          have hfg5_5 := blk_frozen BKg5.out 5
          have hcg5_6 : W29.cell? ⟨g5, 6, none⟩ = some (.int .i64 ((cdig q) 5)) := (blk_cell BKg5.out 6).trans rfl
          have hfg5_6 := blk_frozen BKg5.out 6
          have hcg5_7 : W29.cell? ⟨g5, 7, none⟩ = some (.int .i64 ((cdig q) 6)) := (blk_cell BKg5.out 7).trans rfl
          have hfg5_7 := blk_frozen BKg5.out 7
          have hcg5_8 : W29.cell? ⟨g5, 8, none⟩ = some (.int .i64 ((cdig q) 7)) := (blk_cell BKg5.out 8).trans rfl
          have hfg5_8 := blk_frozen BKg5.out 8
          have hcg2_0 : W29.cell? ⟨g2, 0, none⟩ = some (.bool ma) := (blk_cell BKg2.out 0).trans rfl
          have hfg2_0 := blk_frozen BKg2.out 0
          have hcg2_1 : W29.cell? ⟨g2, 1, none⟩ = some (.int .i64 ((cdig A) 0)) := (blk_cell BKg2.out 1).trans rfl
          have hfg2_1 := blk_frozen BKg2.out 1
          have hcg2_2 : W29.cell? ⟨g2, 2, none⟩ = some (.int .i64 ((cdig A) 1)) := (blk_cell BKg2.out 2).trans rfl
          have hfg2_2 := blk_frozen BKg2.out 2
          have hcg2_3 : W29.cell? ⟨g2, 3, none⟩ = some (.int .i64 ((cdig A) 2)) := (blk_cell BKg2.out 3).trans rfl
          have hfg2_3 := blk_frozen BKg2.out 3
          have hcg2_4 : W29.cell? ⟨g2, 4, none⟩ = some (.int .i64 ((cdig A) 3)) := (blk_cell BKg2.out 4).trans rfl
          have hfg2_4 := blk_frozen BKg2.out 4
          have hcg2_5 : W29.cell? ⟨g2, 5, none⟩ = some (.int .i64 ((cdig A) 4)) := (blk_cell BKg2.out 5).trans rfl
          have hfg2_5 := blk_frozen BKg2.out 5
          have hcg2_6 : W29.cell? ⟨g2, 6, none⟩ = some (.int .i64 ((cdig A) 5)) := (blk_cell BKg2.out 6).trans rfl
          have hfg2_6 := blk_frozen BKg2.out 6
          have hcg2_7 : W29.cell? ⟨g2, 7, none⟩ = some (.int .i64 ((cdig A) 6)) := (blk_cell BKg2.out 7).trans rfl
          have hfg2_7 := blk_frozen BKg2.out 7
          have hcg2_8 : W29.cell? ⟨g2, 8, none⟩ = some (.int .i64 ((cdig A) 7)) := (blk_cell BKg2.out 8).trans rfl
          have hfg2_8 := blk_frozen BKg2.out 8
          have hcg3_0 : W29.cell? ⟨g3, 0, none⟩ = some (.bool mb) := (blk_cell BKg3.out 0).trans rfl
          have hfg3_0 := blk_frozen BKg3.out 0
          have hcg3_1 : W29.cell? ⟨g3, 1, none⟩ = some (.int .i64 ((cdig B) 0)) := (blk_cell BKg3.out 1).trans rfl
          have hfg3_1 := blk_frozen BKg3.out 1
          have hcg3_2 : W29.cell? ⟨g3, 2, none⟩ = some (.int .i64 ((cdig B) 1)) := (blk_cell BKg3.out 2).trans rfl
          have hfg3_2 := blk_frozen BKg3.out 2
          have hcg3_3 : W29.cell? ⟨g3, 3, none⟩ = some (.int .i64 ((cdig B) 2)) := (blk_cell BKg3.out 3).trans rfl
          have hfg3_3 := blk_frozen BKg3.out 3
          have hcg3_4 : W29.cell? ⟨g3, 4, none⟩ = some (.int .i64 ((cdig B) 3)) := (blk_cell BKg3.out 4).trans rfl
          have hfg3_4 := blk_frozen BKg3.out 4
          have hcg3_5 : W29.cell? ⟨g3, 5, none⟩ = some (.int .i64 ((cdig B) 4)) := (blk_cell BKg3.out 5).trans rfl
          have hfg3_5 := blk_frozen BKg3.out 5
          have hcg3_6 : W29.cell? ⟨g3, 6, none⟩ = some (.int .i64 ((cdig B) 5)) := (blk_cell BKg3.out 6).trans rfl
          have hfg3_6 := blk_frozen BKg3.out 6
          have hcg3_7 : W29.cell? ⟨g3, 7, none⟩ = some (.int .i64 ((cdig B) 6)) := (blk_cell BKg3.out 7).trans rfl
          have hfg3_7 := blk_frozen BKg3.out 7
          have hcg3_8 : W29.cell? ⟨g3, 8, none⟩ = some (.int .i64 ((cdig B) 7)) := (blk_cell BKg3.out 8).trans rfl
          have hfg3_8 := blk_frozen BKg3.out 8
          have hcg4_0 : W29.cell? ⟨g4, 0, none⟩ = some (.bool false) := (blk_cell BKg4.out 0).trans rfl
          have hfg4_0 := blk_frozen BKg4.out 0
          have hcg4_1 : W29.cell? ⟨g4, 1, none⟩ = some (.int .i64 0) := (blk_cell BKg4.out 1).trans rfl
          have hfg4_1 := blk_frozen BKg4.out 1
          have hcg4_2 : W29.cell? ⟨g4, 2, none⟩ = some (.int .i64 0) := (blk_cell BKg4.out 2).trans rfl
          have hfg4_2 := blk_frozen BKg4.out 2
          have hcg4_3 : W29.cell? ⟨g4, 3, none⟩ = some (.int .i64 0) := (blk_cell BKg4.out 3).trans rfl
          have hfg4_3 := blk_frozen BKg4.out 3
          have hcg4_4 : W29.cell? ⟨g4, 4, none⟩ = some (.int .i64 0) := (blk_cell BKg4.out 4).trans rfl
          have hfg4_4 := blk_frozen BKg4.out 4
          have hcg4_5 : W29.cell? ⟨g4, 5, none⟩ = some (.int .i64 0) := (blk_cell BKg4.out 5).trans rfl
          have hfg4_5 := blk_frozen BKg4.out 5
          have hcg4_6 : W29.cell? ⟨g4, 6, none⟩ = some (.int .i64 0) := (blk_cell BKg4.out 6).trans rfl
          have hfg4_6 := blk_frozen BKg4.out 6
          have hcg4_7 : W29.cell? ⟨g4, 7, none⟩ = some (.int .i64 0) := (blk_cell BKg4.out 7).trans rfl
          have hfg4_7 := blk_frozen BKg4.out 7
          have hcg4_8 : W29.cell? ⟨g4, 8, none⟩ = some (.int .i64 0) := (blk_cell BKg4.out 8).trans rfl
          have hfg4_8 := blk_frozen BKg4.out 8
          go_wp2
          have n_ : Aside0 ((((((((((W29.setCell ⟨g5, 0, none⟩ (.bool (!(ma == mb)))).setCell ⟨g5, 1, none⟩ (.int .i64 ((cdig q2) 0))).setCell ⟨g5, 2, none⟩ (.int .i64 ((cdig q2) 1))).setCell ⟨g5, 3, none⟩ (.int .i64 ((cdig q2) 2))).setCell ⟨g5, 4, none⟩ (.int .i64 ((cdig q2) 3))).setCell ⟨g5, 5, none⟩ (.int .i64 ((cdig q2) 4))).setCell ⟨g5, 6, none⟩ (.int .i64 ((cdig q2) 5))).setCell ⟨g5, 7, none⟩ (.int .i64 ((cdig q2) 6))).setCell ⟨g5, 8, none⟩ (.int .i64 ((cdig q2) 7))).heap[g5]? = some (.cells #[.bool (!(ma == mb)), .int .i64 ((cdig q2) 0), .int .i64 ((cdig q2) 1), .int .i64 ((cdig q2) 2), .int .i64 ((cdig q2) 3), .int .i64 ((cdig q2) 4), .int .i64 ((cdig q2) 5), .int .i64 ((cdig q2) 6), .int .i64 ((cdig q2) 7)] 60 (0, 0))) := ⟨by refine blk_put (cs := #[.bool (!(ma == mb)), .int .i64 ((cdig q2) 0), .int .i64 ((cdig q2) 1), .int .i64 ((cdig q2) 2), .int .i64 ((cdig q2) 3), .int .i64 ((cdig q2) 4), .int .i64 ((cdig q2) 5), .int .i64 ((cdig q2) 6), .int .i64 ((cdig q) 7)]) ?_ 8 _ rfl; refine blk_put (cs := #[.bool (!(ma == mb)), .int .i64 ((cdig q2) 0), .int .i64 ((cdig q2) 1), .int .i64 ((cdig q2) 2), .int .i64 ((cdig q2) 3), .int .i64 ((cdig q2) 4), .int .i64 ((cdig q2) 5), .int .i64 ((cdig q) 6), .int .i64 ((cdig q) 7)]) ?_ 7 _ rfl; refine blk_put (cs := #[.bool (!(ma == mb)), .int .i64 ((cdig q2) 0), .int .i64 ((cdig q2) 1), .int .i64 ((cdig q2) 2), .int .i64 ((cdig q2) 3), .int .i64 ((cdig q2) 4), .int .i64 ((cdig q) 5), .int .i64 ((cdig q) 6), .int .i64 ((cdig q) 7)]) ?_ 6 _ rfl; refine blk_put (cs := #[.bool (!(ma == mb)), .int .i64 ((cdig q2) 0), .int .i64 ((cdig q2) 1), .int .i64 ((cdig q2) 2), .int .i64 ((cdig q2) 3), .int .i64 ((cdig q) 4), .int .i64 ((cdig q) 5), .int .i64 ((cdig q) 6), .int .i64 ((cdig q) 7)]) ?_ 5 _ rfl; refine blk_put (cs := #[.bool (!(ma == mb)), .int .i64 ((cdig q2) 0), .int .i64 ((cdig q2) 1), .int .i64 ((cdig q2) 2), .int .i64 ((cdig q) 3), .int .i64 ((cdig q) 4), .int .i64 ((cdig q) 5), .int .i64 ((cdig q) 6), .int .i64 ((cdig q) 7)]) ?_ 4 _ rfl; refine blk_put (cs := #[.bool (!(ma == mb)), .int .i64 ((cdig q2) 0), .int .i64 ((cdig q2) 1), .int .i64 ((cdig q) 2), .int .i64 ((cdig q) 3), .int .i64 ((cdig q) 4), .int .i64 ((cdig q) 5), .int .i64 ((cdig q) 6), .int .i64 ((cdig q) 7)]) ?_ 3 _ rfl; refine blk_put (cs := #[.bool (!(ma == mb)), .int .i64 ((cdig q2) 0), .int .i64 ((cdig q) 1), .int .i64 ((cdig q) 2), .int .i64 ((cdig q) 3), .int .i64 ((cdig q) 4), .int .i64 ((cdig q) 5), .int .i64 ((cdig q) 6), .int .i64 ((cdig q) 7)]) ?_ 2 _ rfl; refine blk_put (cs := #[.bool (!(ma == mb)), .int .i64 ((cdig q) 0), .int .i64 ((cdig q) 1), .int .i64 ((cdig q) 2), .int .i64 ((cdig q) 3), .int .i64 ((cdig q) 4), .int .i64 ((cdig q) 5), .int .i64 ((cdig q) 6), .int .i64 ((cdig q) 7)]) ?_ 1 _ rfl; refine blk_put (cs := #[.bool (!(ma == mb)), .int .i64 ((cdig q) 0), .int .i64 ((cdig q) 1), .int .i64 ((cdig q) 2), .int .i64 ((cdig q) 3), .int .i64 ((cdig q) 4), .int .i64 ((cdig q) 5), .int .i64 ((cdig q) 6), .int .i64 ((cdig q) 7)]) ?_ 0 _ rfl; exact BKg5.out⟩
          have m_ : Aside0 ((((((((((W29.setCell ⟨g5, 0, none⟩ (.bool (!(ma == mb)))).setCell ⟨g5, 1, none⟩ (.int .i64 ((cdig q2) 0))).setCell ⟨g5, 2, none⟩ (.int .i64 ((cdig q2) 1))).setCell ⟨g5, 3, none⟩ (.int .i64 ((cdig q2) 2))).setCell ⟨g5, 4, none⟩ (.int .i64 ((cdig q2) 3))).setCell ⟨g5, 5, none⟩ (.int .i64 ((cdig q2) 4))).setCell ⟨g5, 6, none⟩ (.int .i64 ((cdig q2) 5))).setCell ⟨g5, 7, none⟩ (.int .i64 ((cdig q2) 6))).setCell ⟨g5, 8, none⟩ (.int .i64 ((cdig q2) 7))).heap[g6]? = some (.cells #[.bool false, .int .i64 ((cdig x) 0), .int .i64 ((cdig x) 1), .int .i64 ((cdig x) 2), .int .i64 ((cdig x) 3), .int .i64 ((cdig x) 4), .int .i64 ((cdig x) 5), .int .i64 ((cdig x) 6), .int .i64 ((cdig x) 7)] 60 (0, 0))) := ⟨(blk_far (blk_far (blk_far (blk_far (blk_far (blk_far (blk_far (blk_far (blk_far BKg6.out NBg6_g5 _) NBg6_g5 _) NBg6_g5 _) NBg6_g5 _) NBg6_g5 _) NBg6_g5 _) NBg6_g5 _) NBg6_g5 _) NBg6_g5 _)⟩
          clear BKg6; have BKg6 := m_; clear m_
          have m_ : Aside0 ((((((((((W29.setCell ⟨g5, 0, none⟩ (.bool (!(ma == mb)))).setCell ⟨g5, 1, none⟩ (.int .i64 ((cdig q2) 0))).setCell ⟨g5, 2, none⟩ (.int .i64 ((cdig q2) 1))).setCell ⟨g5, 3, none⟩ (.int .i64 ((cdig q2) 2))).setCell ⟨g5, 4, none⟩ (.int .i64 ((cdig q2) 3))).setCell ⟨g5, 5, none⟩ (.int .i64 ((cdig q2) 4))).setCell ⟨g5, 6, none⟩ (.int .i64 ((cdig q2) 5))).setCell ⟨g5, 7, none⟩ (.int .i64 ((cdig q2) 6))).setCell ⟨g5, 8, none⟩ (.int .i64 ((cdig q2) 7))).heap[g2]? = some (.cells (bigA ma (cdig A)) 60 (0, 0))) := ⟨(blk_far (blk_far (blk_far (blk_far (blk_far (blk_far (blk_far (blk_far (blk_far BKg2.out NBg2_g5 _) NBg2_g5 _) NBg2_g5 _) NBg2_g5 _) NBg2_g5 _) NBg2_g5 _) NBg2_g5 _) NBg2_g5 _) NBg2_g5 _)⟩
          clear BKg2; have BKg2 := m_; clear m_
          have m_ : Aside0 ((((((((((W29.setCell ⟨g5, 0, none⟩ (.bool (!(ma == mb)))).setCell ⟨g5, 1, none⟩ (.int .i64 ((cdig q2) 0))).setCell ⟨g5, 2, none⟩ (.int .i64 ((cdig q2) 1))).setCell ⟨g5, 3, none⟩ (.int .i64 ((cdig q2) 2))).setCell ⟨g5, 4, none⟩ (.int .i64 ((cdig q2) 3))).setCell ⟨g5, 5, none⟩ (.int .i64 ((cdig q2) 4))).setCell ⟨g5, 6, none⟩ (.int .i64 ((cdig q2) 5))).setCell ⟨g5, 7, none⟩ (.int .i64 ((cdig q2) 6))).setCell ⟨g5, 8, none⟩ (.int .i64 ((cdig q2) 7))).heap[g3]? = some (.cells (bigA mb (cdig B)) 60 (0, 0))) := ⟨(blk_far (blk_far (blk_far (blk_far (blk_far (blk_far (blk_far (blk_far (blk_far BKg3.out NBg3_g5 _) NBg3_g5 _) NBg3_g5 _) NBg3_g5 _) NBg3_g5 _) NBg3_g5 _) NBg3_g5 _) NBg3_g5 _) NBg3_g5 _)⟩
          clear BKg3; have BKg3 := m_; clear m_
          have m_ : Aside0 ((((((((((W29.setCell ⟨g5, 0, none⟩ (.bool (!(ma == mb)))).setCell ⟨g5, 1, none⟩ (.int .i64 ((cdig q2) 0))).setCell ⟨g5, 2, none⟩ (.int .i64 ((cdig q2) 1))).setCell ⟨g5, 3, none⟩ (.int .i64 ((cdig q2) 2))).setCell ⟨g5, 4, none⟩ (.int .i64 ((cdig q2) 3))).setCell ⟨g5, 5, none⟩ (.int .i64 ((cdig q2) 4))).setCell ⟨g5, 6, none⟩ (.int .i64 ((cdig q2) 5))).setCell ⟨g5, 7, none⟩ (.int .i64 ((cdig q2) 6))).setCell ⟨g5, 8, none⟩ (.int .i64 ((cdig q2) 7))).heap[g4]? = some (.cells #[.bool false, .int .i64 0, .int .i64 0, .int .i64 0, .int .i64 0, .int .i64 0, .int .i64 0, .int .i64 0, .int .i64 0] 60 (0, 0))) := ⟨(blk_far (blk_far (blk_far (blk_far (blk_far (blk_far (blk_far (blk_far (blk_far BKg4.out NBg4_g5 _) NBg4_g5 _) NBg4_g5 _) NBg4_g5 _) NBg4_g5 _) NBg4_g5 _) NBg4_g5 _) NBg4_g5 _) NBg4_g5 _)⟩
          clear BKg4; have BKg4 := m_; clear m_
          have b_ : Aside0 (Below w.heap.size w (((((((((W29.setCell ⟨g5, 0, none⟩ (.bool (!(ma == mb)))).setCell ⟨g5, 1, none⟩ (.int .i64 ((cdig q2) 0))).setCell ⟨g5, 2, none⟩ (.int .i64 ((cdig q2) 1))).setCell ⟨g5, 3, none⟩ (.int .i64 ((cdig q2) 2))).setCell ⟨g5, 4, none⟩ (.int .i64 ((cdig q2) 3))).setCell ⟨g5, 5, none⟩ (.int .i64 ((cdig q2) 4))).setCell ⟨g5, 6, none⟩ (.int .i64 ((cdig q2) 5))).setCell ⟨g5, 7, none⟩ (.int .i64 ((cdig q2) 6))).setCell ⟨g5, 8, none⟩ (.int .i64 ((cdig q2) 7)))) := ⟨(below_set (below_set (below_set (below_set (below_set (below_set (below_set (below_set (below_set HB.out GEg5.out) GEg5.out) GEg5.out) GEg5.out) GEg5.out) GEg5.out) GEg5.out) GEg5.out) GEg5.out)⟩
          clear BKg5 HB; have BKg5 := n_; have HB := b_; clear n_ b_
          clear hcg6_0 hfg6_0
          clear hcg6_1 hfg6_1
          clear hcg6_2 hfg6_2
          clear hcg6_3 hfg6_3
          clear hcg6_4 hfg6_4
          clear hcg6_5 hfg6_5
          clear hcg6_6 hfg6_6
          clear hcg6_7 hfg6_7
          clear hcg6_8 hfg6_8
          clear hcg5_0 hfg5_0
          clear hcg5_1 hfg5_1
          clear hcg5_2 hfg5_2
          clear hcg5_3 hfg5_3
          clear hcg5_4 hfg5_4
          clear hcg5_5 hfg5_5
          clear hcg5_6 hfg5_6
          clear hcg5_7 hfg5_7
          clear hcg5_8 hfg5_8
          clear hcg2_0 hfg2_0
          clear hcg2_1 hfg2_1
          clear hcg2_2 hfg2_2
          clear hcg2_3 hfg2_3
          clear hcg2_4 hfg2_4
          clear hcg2_5 hfg2_5
          clear hcg2_6 hfg2_6
          clear hcg2_7 hfg2_7
          clear hcg2_8 hfg2_8
          clear hcg3_0 hfg3_0
          clear hcg3_1 hfg3_1
          clear hcg3_2 hfg3_2
          clear hcg3_3 hfg3_3
          clear hcg3_4 hfg3_4
          clear hcg3_5 hfg3_5
          clear hcg3_6 hfg3_6
          clear hcg3_7 hfg3_7
          clear hcg3_8 hfg3_8
          clear hcg4_0 hfg4_0
          clear hcg4_1 hfg4_1
          clear hcg4_2 hfg4_2
          clear hcg4_3 hfg4_3
          clear hcg4_4 hfg4_4
          clear hcg4_5 hfg4_5
          clear hcg4_6 hfg4_6
          clear hcg4_7 hfg4_7
          clear hcg4_8 hfg4_8
          generalize (((((((((W29.setCell ⟨g5, 0, none⟩ (.bool (!(ma == mb)))).setCell ⟨g5, 1, none⟩ (.int .i64 ((cdig q2) 0))).setCell ⟨g5, 2, none⟩ (.int .i64 ((cdig q2) 1))).setCell ⟨g5, 3, none⟩ (.int .i64 ((cdig q2) 2))).setCell ⟨g5, 4, none⟩ (.int .i64 ((cdig q2) 3))).setCell ⟨g5, 5, none⟩ (.int .i64 ((cdig q2) 4))).setCell ⟨g5, 6, none⟩ (.int .i64 ((cdig q2) 5))).setCell ⟨g5, 7, none⟩ (.int .i64 ((cdig q2) 6))).setCell ⟨g5, 8, none⟩ (.int .i64 ((cdig q2) 7))) = W30 at *
          have hcg6_0 : W30.cell? ⟨g6, 0, none⟩ = some (.bool false) := (blk_cell BKg6.out 0).trans rfl
          have hfg6_0 := blk_frozen BKg6.out 0
          have hcg6_1 : W30.cell? ⟨g6, 1, none⟩ = some (.int .i64 ((cdig x) 0)) := (blk_cell BKg6.out 1).trans rfl
          have hfg6_1 := blk_frozen BKg6.out 1
          have hcg6_2 : W30.cell? ⟨g6, 2, none⟩ = some (.int .i64 ((cdig x) 1)) := (blk_cell BKg6.out 2).trans rfl
          have hfg6_2 := blk_frozen BKg6.out 2
          have hcg6_3 : W30.cell? ⟨g6, 3, none⟩ = some (.int .i64 ((cdig x) 2)) := (blk_cell BKg6.out 3).trans rfl
          have hfg6_3 := blk_frozen BKg6.out 3
          have hcg6_4 : W30.cell? ⟨g6, 4, none⟩ = some (.int .i64 ((cdig x) 3)) := (blk_cell BKg6.out 4).trans rfl
          have hfg6_4 := blk_frozen BKg6.out 4
          have hcg6_5 : W30.cell? ⟨g6, 5, none⟩ = some (.int .i64 ((cdig x) 4)) := (blk_cell BKg6.out 5).trans rfl
          have hfg6_5 := blk_frozen BKg6.out 5
          have hcg6_6 : W30.cell? ⟨g6, 6, none⟩ = some (.int .i64 ((cdig x) 5)) := (blk_cell BKg6.out 6).trans rfl
          have hfg6_6 := blk_frozen BKg6.out 6
          have hcg6_7 : W30.cell? ⟨g6, 7, none⟩ = some (.int .i64 ((cdig x) 6)) := (blk_cell BKg6.out 7).trans rfl
          have hfg6_7 := blk_frozen BKg6.out 7
          have hcg6_8 : W30.cell? ⟨g6, 8, none⟩ = some (.int .i64 ((cdig x) 7)) := (blk_cell BKg6.out 8).trans rfl
          have hfg6_8 := blk_frozen BKg6.out 8
          have hcg5_0 : W30.cell? ⟨g5, 0, none⟩ = some (.bool (!(ma == mb))) := (blk_cell BKg5.out 0).trans rfl
          have hfg5_0 := blk_frozen BKg5.out 0
          have hcg5_1 : W30.cell? ⟨g5, 1, none⟩ = some (.int .i64 ((cdig q2) 0)) := (blk_cell BKg5.out 1).trans rfl
          have hfg5_1 := blk_frozen BKg5.out 1
          have hcg5_2 : W30.cell? ⟨g5, 2, none⟩ = some (.int .i64 ((cdig q2) 1)) := (blk_cell BKg5.out 2).trans rfl
          have hfg5_2 := blk_frozen BKg5.out 2
          have hcg5_3 : W30.cell? ⟨g5, 3, none⟩ = some (.int .i64 ((cdig q2) 2)) := (blk_cell BKg5.out 3).trans rfl
          have hfg5_3 := blk_frozen BKg5.out 3
          have hcg5_4 : W30.cell? ⟨g5, 4, none⟩ = some (.int .i64 ((cdig q2) 3)) := (blk_cell BKg5.out 4).trans rfl
          have hfg5_4 := blk_frozen BKg5.out 4
          have hcg5_5 : W30.cell? ⟨g5, 5, none⟩ = some (.int .i64 ((cdig q2) 4)) := (blk_cell BKg5.out 5).trans rfl
          have hfg5_5 := blk_frozen BKg5.out 5
          have hcg5_6 : W30.cell? ⟨g5, 6, none⟩ = some (.int .i64 ((cdig q2) 5)) := (blk_cell BKg5.out 6).trans rfl
          have hfg5_6 := blk_frozen BKg5.out 6
          have hcg5_7 : W30.cell? ⟨g5, 7, none⟩ = some (.int .i64 ((cdig q2) 6)) := (blk_cell BKg5.out 7).trans rfl
          have hfg5_7 := blk_frozen BKg5.out 7
          have hcg5_8 : W30.cell? ⟨g5, 8, none⟩ = some (.int .i64 ((cdig q2) 7)) := (blk_cell BKg5.out 8).trans rfl
          have hfg5_8 := blk_frozen BKg5.out 8
          have hcg2_0 : W30.cell? ⟨g2, 0, none⟩ = some (.bool ma) := (blk_cell BKg2.out 0).trans rfl
          have hfg2_0 := blk_frozen BKg2.out 0
          have hcg2_1 : W30.cell? ⟨g2, 1, none⟩ = some (.int .i64 ((cdig A) 0)) := (blk_cell BKg2.out 1).trans rfl
          have hfg2_1 := blk_frozen BKg2.out 1
          have hcg2_2 : W30.cell? ⟨g2, 2, none⟩ = some (.int .i64 ((cdig A) 1)) := (blk_cell BKg2.out 2).trans rfl
          have hfg2_2 := blk_frozen BKg2.out 2
          have hcg2_3 : W30.cell? ⟨g2, 3, none⟩ = some (.int .i64 ((cdig A) 2)) := (blk_cell BKg2.out 3).trans rfl
          have hfg2_3 := blk_frozen BKg2.out 3
          have hcg2_4 : W30.cell? ⟨g2, 4, none⟩ = some (.int .i64 ((cdig A) 3)) := (blk_cell BKg2.out 4).trans rfl
          have hfg2_4 := blk_frozen BKg2.out 4
          have hcg2_5 : W30.cell? ⟨g2, 5, none⟩ = some (.int .i64 ((cdig A) 4)) := (blk_cell BKg2.out 5).trans rfl
          have hfg2_5 := blk_frozen BKg2.out 5
          have hcg2_6 : W30.cell? ⟨g2, 6, none⟩ = some (.int .i64 ((cdig A) 5)) := (blk_cell BKg2.out 6).trans rfl
          have hfg2_6 := blk_frozen BKg2.out 6
          have hcg2_7 : W30.cell? ⟨g2, 7, none⟩ = some (.int .i64 ((cdig A) 6)) := (blk_cell BKg2.out 7).trans rfl
          have hfg2_7 := blk_frozen BKg2.out 7
          have hcg2_8 : W30.cell? ⟨g2, 8, none⟩ = some (.int .i64 ((cdig A) 7)) := (blk_cell BKg2.out 8).trans rfl
          have hfg2_8 := blk_frozen BKg2.out 8
          have hcg3_0 : W30.cell? ⟨g3, 0, none⟩ = some (.bool mb) := (blk_cell BKg3.out 0).trans rfl
          have hfg3_0 := blk_frozen BKg3.out 0
          have hcg3_1 : W30.cell? ⟨g3, 1, none⟩ = some (.int .i64 ((cdig B) 0)) := (blk_cell BKg3.out 1).trans rfl
          have hfg3_1 := blk_frozen BKg3.out 1
          have hcg3_2 : W30.cell? ⟨g3, 2, none⟩ = some (.int .i64 ((cdig B) 1)) := (blk_cell BKg3.out 2).trans rfl
          have hfg3_2 := blk_frozen BKg3.out 2
          have hcg3_3 : W30.cell? ⟨g3, 3, none⟩ = some (.int .i64 ((cdig B) 2)) := (blk_cell BKg3.out 3).trans rfl
          have hfg3_3 := blk_frozen BKg3.out 3
          have hcg3_4 : W30.cell? ⟨g3, 4, none⟩ = some (.int .i64 ((cdig B) 3)) := (blk_cell BKg3.out 4).trans rfl
          have hfg3_4 := blk_frozen BKg3.out 4
          have hcg3_5 : W30.cell? ⟨g3, 5, none⟩ = some (.int .i64 ((cdig B) 4)) := (blk_cell BKg3.out 5).trans rfl
          have hfg3_5 := blk_frozen BKg3.out 5
          have hcg3_6 : W30.cell? ⟨g3, 6, none⟩ = some (.int .i64 ((cdig B) 5)) := (blk_cell BKg3.out 6).trans rfl
          have hfg3_6 := blk_frozen BKg3.out 6
          have hcg3_7 : W30.cell? ⟨g3, 7, none⟩ = some (.int .i64 ((cdig B) 6)) := (blk_cell BKg3.out 7).trans rfl
          have hfg3_7 := blk_frozen BKg3.out 7
          have hcg3_8 : W30.cell? ⟨g3, 8, none⟩ = some (.int .i64 ((cdig B) 7)) := (blk_cell BKg3.out 8).trans rfl
          have hfg3_8 := blk_frozen BKg3.out 8
          have hcg4_0 : W30.cell? ⟨g4, 0, none⟩ = some (.bool false) := (blk_cell BKg4.out 0).trans rfl
          have hfg4_0 := blk_frozen BKg4.out 0
          have hcg4_1 : W30.cell? ⟨g4, 1, none⟩ = some (.int .i64 0) := (blk_cell BKg4.out 1).trans rfl
          have hfg4_1 := blk_frozen BKg4.out 1
          have hcg4_2 : W30.cell? ⟨g4, 2, none⟩ = some (.int .i64 0) := (blk_cell BKg4.out 2).trans rfl
          have hfg4_2 := blk_frozen BKg4.out 2
          have hcg4_3 : W30.cell? ⟨g4, 3, none⟩ = some (.int .i64 0) := (blk_cell BKg4.out 3).trans rfl
          have hfg4_3 := blk_frozen BKg4.out 3
          have hcg4_4 : W30.cell? ⟨g4, 4, none⟩ = some (.int .i64 0) := (blk_cell BKg4.out 4).trans rfl
          have hfg4_4 := blk_frozen BKg4.out 4
          have hcg4_5 : W30.cell? ⟨g4, 5, none⟩ = some (.int .i64 0) := (blk_cell BKg4.out 5).trans rfl
          have hfg4_5 := blk_frozen BKg4.out 5
          have hcg4_6 : W30.cell? ⟨g4, 6, none⟩ = some (.int .i64 0) := (blk_cell BKg4.out 6).trans rfl
          have hfg4_6 := blk_frozen BKg4.out 6
          have hcg4_7 : W30.cell? ⟨g4, 7, none⟩ = some (.int .i64 0) := (blk_cell BKg4.out 7).trans rfl
          have hfg4_7 := blk_frozen BKg4.out 7
          have hcg4_8 : W30.cell? ⟨g4, 8, none⟩ = some (.int .i64 0) := (blk_cell BKg4.out 8).trans rfl
          have hfg4_8 := blk_frozen BKg4.out 8
          exact ⟨⟨k, q2, x, rfl, ⟨by omega⟩, HN, BKg6, BKg5, BKg2, BKg3, BKg4, HB⟩, by simp [intOf]⟩
end Go.Proofs.YtcnibfancjofhaaDoor

/- The reference's great numbers: Div, From, To, Sqrt. -/
namespace Go.Proofs.YtcnibfancjofhaaDoor
open Go.RowKit Go.Proofs.YtcnibfancjofhaaDoorW.PrintWords Go.Proofs.YtcnibfancjofhaaDoorW.PrintLast Go.Proofs.YtcnibfancjofhaaDoorW.PrintMore
set_option linter.unusedVariables false
set_option linter.unusedSimpArgs false
theorem of_p (n : Int) (w : World) (hn : I64 n) (h0 : 0 ≤ n) : Calls Tryd.prog 40 #[.int .i64 n] w fun e w' => e = .returned (.agg #[.bool false, .int .i64 (cdig n 0), .int .i64 (cdig n 1), .int .i64 (cdig n 2), .int .i64 (cdig n 3), .int .i64 (cdig n 4), .int .i64 (cdig n 5), .int .i64 (cdig n 6), .int .i64 (cdig n 7)]) ∧ Below w.heap.size w w' := by
  have h := of_ex n w hn
  rw [decide_eq_false (show ¬ n < 0 by omega), show (n.natAbs : Int) = n by omega] at h
  exact h
theorem times_p (A B : Int) (w : World) (hA : Rep (cdig A) A) (hB : Rep (cdig B) B) (hA1 : A < 18446744073709551616) (hB1 : B < 18446744073709551616) :
    Calls Tryd.prog 50 #[.agg #[.bool false, .int .i64 (cdig A 0), .int .i64 (cdig A 1), .int .i64 (cdig A 2), .int .i64 (cdig A 3), .int .i64 (cdig A 4), .int .i64 (cdig A 5), .int .i64 (cdig A 6), .int .i64 (cdig A 7)], .agg #[.bool false, .int .i64 (cdig B 0), .int .i64 (cdig B 1), .int .i64 (cdig B 2), .int .i64 (cdig B 3), .int .i64 (cdig B 4), .int .i64 (cdig B 5), .int .i64 (cdig B 6), .int .i64 (cdig B 7)]] w fun e w' => e = .returned (.agg #[.bool false, .int .i64 (cdig (A * B) 0), .int .i64 (cdig (A * B) 1), .int .i64 (cdig (A * B) 2), .int .i64 (cdig (A * B) 3), .int .i64 (cdig (A * B) 4), .int .i64 (cdig (A * B) 5), .int .i64 (cdig (A * B) 6), .int .i64 (cdig (A * B) 7)]) ∧ Below w.heap.size w w' :=
  times_ex false false A B w hA hB hA1 hB1
theorem over_ex (ma mb : Bool) (A B : Int) (w : World) (hA : Rep (cdig A) A) (hB : Rep (cdig B) B) (hB0 : 0 < B) (hB1 : B < 18446744073709551616) :
    Calls Tryd.prog 47 #[.agg #[.bool ma, .int .i64 (cdig A 0), .int .i64 (cdig A 1), .int .i64 (cdig A 2), .int .i64 (cdig A 3), .int .i64 (cdig A 4), .int .i64 (cdig A 5), .int .i64 (cdig A 6), .int .i64 (cdig A 7)], .agg #[.bool mb, .int .i64 (cdig B 0), .int .i64 (cdig B 1), .int .i64 (cdig B 2), .int .i64 (cdig B 3), .int .i64 (cdig B 4), .int .i64 (cdig B 5), .int .i64 (cdig B 6), .int .i64 (cdig B 7)]] w fun e w' => e = .returned (.agg #[.bool (!(ma == mb)), .int .i64 (cdig (A / B) 0), .int .i64 (cdig (A / B) 1), .int .i64 (cdig (A / B) 2), .int .i64 (cdig (A / B) 3), .int .i64 (cdig (A / B) 4), .int .i64 (cdig (A / B) 5), .int .i64 (cdig (A / B) 6), .int .i64 (cdig (A / B) 7)]) ∧ Below w.heap.size w w' :=
  over_calls ma mb A B w hA hB hB0 hB1
theorem radd_eq (a b : Int) (ha : In64 a) (hb : In64 b) : PFixWorks.tiltyardref03_Add.f 1 a b = some (addF a b) := by
  obtain ⟨a1, a2⟩ := ha
  obtain ⟨b1, b2⟩ := hb
  unfold PFixWorks.tiltyardref03_Add.f PFixWorks.tiltyardref03_Add.j0 addF sat wrap64
  by_cases h1 : b > 0 <;> by_cases h2 : b < 0 <;> simp [h1, h2] <;> (repeat' split) <;> first | omega | (simp; done) | (simp; omega) | (simp at *; omega)
theorem rsub_eq (a b : Int) (ha : In64 a) (hb : In64 b) : PFixWorks.tiltyardref03_Sub.f 1 a b = some (subF a b) := by
  obtain ⟨a1, a2⟩ := ha
  obtain ⟨b1, b2⟩ := hb
  unfold PFixWorks.tiltyardref03_Sub.f PFixWorks.tiltyardref03_Sub.j0 subF sat wrap64
  by_cases h1 : b > 0 <;> by_cases h2 : b < 0 <;> simp [h1, h2] <;> (repeat' split) <;> first | omega | (simp; done) | (simp; omega) | (simp at *; omega)
theorem rAdd_calls (a b : Int) (w : World) (ha : In64 a) (hb : In64 b) : Calls Tryd.prog 23 #[.int .i64 a, .int .i64 b] w fun e w' => e = .returned (.int .i64 (addF a b)) ∧ ∃ n, w' = w.drewN n :=
  (PFixWorks.tiltyardref03_Add.calls 1 a b _ w (radd_eq a b ha hb)).mono fun _ _ h => ⟨h.1, h.2.out⟩
theorem rSub_calls (a b : Int) (w : World) (ha : In64 a) (hb : In64 b) : Calls Tryd.prog 24 #[.int .i64 a, .int .i64 b] w fun e w' => e = .returned (.int .i64 (subF a b)) ∧ ∃ n, w' = w.drewN n :=
  (PFixWorks.tiltyardref03_Sub.calls 1 a b _ w (rsub_eq a b ha hb)).mono fun _ _ h => ⟨h.1, h.2.out⟩
set_option maxHeartbeats 4000000 in
set_option maxRecDepth 100000 in
theorem rfrom_calls (a : Int) (w : World) (ha : I64 a) :
    Calls Tryd.prog 27 #[.int .i64 a] w
      fun e w' => e = .returned (.int .i64 (fromF a)) ∧ Below w.heap.size w w' := by
  have HB := Aside0.mk (Below.refl w.heap.size w)
  obtain ⟨r1, r2⟩ := rep_abs ha
  have h1 := ha.1; have h2 := ha.2
  have r3 : Rep (cdig ((a.natAbs : Int) * 4294967296)) ((a.natAbs : Int) * 4294967296) := rep_cdig (by omega) (by omega)
  have e1 := fromF_rep a
  have E1 := Lib.hid e1; clear e1
  have hst := fun W => stop_ex (decide (a < 0)) ((a.natAbs : Int) * 4294967296) W r3
  rw [← E1.out] at hst
  go_enter Tryd.func27, Tryd.ntmps27
  go_wp2_with fail
  ((with_reducible refine (of_ex _ _ ha).mono ?_); rintro e_ W1 ⟨rfl, hb_⟩)
  have n_ := Aside0.mk (below_step HB.out hb_); clear HB; have HB := n_; clear n_
  clear hb_
  go_wp2_with fail
  ((with_reducible refine (shiftu_ex (decide (a < 0)) (a.natAbs : Int) _ r1 (by omega)).mono ?_); rintro e_ W2 ⟨rfl, hb_⟩)
  have n_ := Aside0.mk (below_step HB.out hb_); clear HB; have HB := n_; clear n_
  clear hb_
  go_wp2_with fail
  ((with_reducible refine (hst _).mono ?_); rintro e_ W3 ⟨rfl, hb_⟩)
  have n_ := Aside0.mk (below_step HB.out hb_); clear HB; have HB := n_; clear n_
  clear hb_
  go_wp2_with fail
  go_wp2
  go_ret
  exact ⟨rfl, (by repeat (first | (with_reducible first | exact HB.out | apply below_alloc | apply pw_below_drewN | apply below_drew1) | exact HB.out))⟩
set_option maxHeartbeats 4000000 in
set_option maxRecDepth 100000 in
theorem rto_calls (a : Int) (w : World) (ha : I64 a) :
    Calls Tryd.prog 29 #[.int .i64 a] w
      fun e w' => e = .returned (.int .i64 (toF a)) ∧ Below w.heap.size w w' := by
  have HB := Aside0.mk (Below.refl w.heap.size w)
  obtain ⟨r1, r2⟩ := rep_abs ha
  have h1 := ha.1; have h2 := ha.2
  have r3 : Rep (cdig ((a.natAbs : Int) / 4294967296)) ((a.natAbs : Int) / 4294967296) := rep_cdig (by omega) (by omega)
  have e1 := toF_rep a
  have E1 := Lib.hid e1; clear e1
  have hst := fun W => stop_ex (decide (a < 0)) ((a.natAbs : Int) / 4294967296) W r3
  rw [← E1.out] at hst
  go_enter Tryd.func29, Tryd.ntmps29
  go_wp2_with fail
  ((with_reducible refine (of_ex _ _ ha).mono ?_); rintro e_ W1 ⟨rfl, hb_⟩)
  have n_ := Aside0.mk (below_step HB.out hb_); clear HB; have HB := n_; clear n_
  clear hb_
  go_wp2_with fail
  ((with_reducible refine (shift_ex (decide (a < 0)) (a.natAbs : Int) _ r1).mono ?_); rintro e_ W2 ⟨rfl, hb_⟩)
  have n_ := Aside0.mk (below_step HB.out hb_); clear HB; have HB := n_; clear n_
  clear hb_
  go_wp2_with fail
  ((with_reducible refine (hst _).mono ?_); rintro e_ W3 ⟨rfl, hb_⟩)
  have n_ := Aside0.mk (below_step HB.out hb_); clear HB; have HB := n_; clear n_
  clear hb_
  go_wp2_with fail
  go_wp2
  go_ret
  exact ⟨rfl, (by repeat (first | (with_reducible first | exact HB.out | apply below_alloc | apply pw_below_drewN | apply below_drew1) | exact HB.out))⟩
set_option maxHeartbeats 4000000 in
set_option maxRecDepth 100000 in
theorem rdiv_calls (a b : Int) (w : World) (ha : I64 a) (hb : I64 b) (hb0 : b ≠ 0) :
    Calls Tryd.prog 21 #[.int .i64 a, .int .i64 b] w
      fun e w' => e = .returned (.tuple #[.int .i64 (divF a b), .int .i64 0]) ∧ Below w.heap.size w w' := by
  have HB := Aside0.mk (Below.refl w.heap.size w)
  obtain ⟨r1, r2⟩ := rep_abs ha; obtain ⟨q1, q2⟩ := rep_abs hb
  have h1 := ha.1; have h2 := ha.2
  have r3 : Rep (cdig ((a.natAbs : Int) * 4294967296)) ((a.natAbs : Int) * 4294967296) := rep_cdig (by omega) (by omega)
  have hq0 : 0 < (b.natAbs : Int) := by omega
  have hle := Int.ediv_le_self (b.natAbs : Int) (show 0 ≤ (a.natAbs : Int) * 4294967296 by omega)
  have hge := Int.ediv_nonneg (show 0 ≤ (a.natAbs : Int) * 4294967296 by omega) (show 0 ≤ (b.natAbs : Int) by omega)
  have r4 : Rep (cdig ((a.natAbs : Int) * 4294967296 / (b.natAbs : Int))) ((a.natAbs : Int) * 4294967296 / (b.natAbs : Int)) := rep_cdig hge (by omega)
  have e1 := divF_rep a b
  have E1 := Lib.hid e1; clear e1 hle hge
  have d0 : (b == 0) = false := by simpa using hb0
  have hst := fun W => stop_ex (!(decide (a < 0) == decide (b < 0))) ((a.natAbs : Int) * 4294967296 / (b.natAbs : Int)) W r4
  rw [← E1.out] at hst
  go_enter Tryd.func21, Tryd.ntmps21
  go_wp2_with fail
  ((with_reducible refine (of_ex _ _ ha).mono ?_); rintro e_ W1 ⟨rfl, hb_⟩)
  have n_ := Aside0.mk (below_step HB.out hb_); clear HB; have HB := n_; clear n_
  clear hb_
  go_wp2_with fail
  ((with_reducible refine (shiftu_ex (decide (a < 0)) (a.natAbs : Int) _ r1 (by omega)).mono ?_); rintro e_ W2 ⟨rfl, hb_⟩)
  have n_ := Aside0.mk (below_step HB.out hb_); clear HB; have HB := n_; clear n_
  clear hb_
  go_wp2_with fail
  ((with_reducible refine (of_ex _ _ hb).mono ?_); rintro e_ W3 ⟨rfl, hb_⟩)
  have n_ := Aside0.mk (below_step HB.out hb_); clear HB; have HB := n_; clear n_
  clear hb_
  go_wp2_with fail
  ((with_reducible refine (over_ex (decide (a < 0)) (decide (b < 0)) ((a.natAbs : Int) * 4294967296) (b.natAbs : Int) _ r3 q1 hq0 q2).mono ?_); rintro e_ W4 ⟨rfl, hb_⟩)
  have n_ := Aside0.mk (below_step HB.out hb_); clear HB; have HB := n_; clear n_
  clear hb_
  go_wp2_with fail
  ((with_reducible refine (hst _).mono ?_); rintro e_ W5 ⟨rfl, hb_⟩)
  have n_ := Aside0.mk (below_step HB.out hb_); clear HB; have HB := n_; clear n_
  clear hb_
  go_wp2_with fail
  go_wp2
  go_ret2
  exact ⟨rfl, (by repeat (first | (with_reducible first | exact HB.out | apply below_alloc | apply pw_below_drewN | apply below_drew1) | exact HB.out))⟩
theorem rdiv_zero (a : Int) (w : World) : Calls Tryd.prog 21 #[.int .i64 a, .int .i64 0] w fun e w' => e = .returned (.tuple #[.int .i64 0, .int .i64 30]) ∧ Below w.heap.size w w' := by
  go_enter Tryd.func21, Tryd.ntmps21
  go_wp2
  go_ret2
  exact ⟨rfl, Below.refl _ _⟩
theorem rsqrt_neg (a : Int) (w : World) (h : a < 0) : Calls Tryd.prog 22 #[.int .i64 a] w fun e w' => e = .returned (.tuple #[.int .i64 0, .int .i64 1]) ∧ Below w.heap.size w w' := by
  go_enter Tryd.func22, Tryd.ntmps22
  go_wp2
  go_ret2
  exact ⟨rfl, Below.refl _ _⟩
theorem cmp_le {a b : Int} (h : a ≤ b) : cmpI a b ≤ 0 := by unfold cmpI; (repeat' split) <;> omega
theorem cmp_gt {a b : Int} (h : b < a) : 0 < cmpI a b := by unfold cmpI; (repeat' split) <;> omega
set_option maxHeartbeats 8000000 in
set_option maxRecDepth 100000 in
theorem rsqrt_calls (a n0 : Int) (w : World) (h0 : 0 ≤ a) (h1 : a ≤ 9223372036854775807) (hr0 : Root a n0) :
    Calls Tryd.prog 22 #[.int .i64 a] w
      fun e w' => e = .returned (.tuple #[.int .i64 n0, .int .i64 0]) ∧ Below w.heap.size w w' := by
  have HB := Aside0.mk (Below.refl w.heap.size w)
  have ha : I64 a := ⟨by omega, h1⟩
  obtain ⟨A, hA⟩ : ∃ A, A = a * 4294967296 := ⟨_, rfl⟩
  have r1 : Rep (cdig a) a := rep_cdig h0 (by omega)
  have r3 : Rep (cdig A) A := rep_cdig (by omega) (by omega)
  have hs0 := sqr_start (A := A) (by omega) (by omega)
  have HS0 := Aside0.mk hs0; clear hs0
  have hsh := fun W => shiftu_ex false a W r1 (by omega)
  rw [← hA] at hsh
  have HR0 := Aside0.mk hr0; clear hr0
  have HAA := Lib.hid hA; clear hA
  go_enter Tryd.func22, Tryd.ntmps22
  go_wp2_with fail
  ((with_reducible refine (of_p _ _ ha h0).mono ?_); rintro e_ W1 ⟨rfl, hb_⟩)
  have n_ := Aside0.mk (below_step HB.out hb_); clear HB; have HB := n_; clear n_
  clear hb_
  go_wp2_with fail
  ((with_reducible refine (hsh _).mono ?_); rintro e_ W2 ⟨rfl, hb_⟩)
  have n_ := Aside0.mk (below_step HB.out hb_); clear HB; have HB := n_; clear n_
  clear hb_
  clear hsh
  go_wp2_with (first | ((with_reducible refine gate_dst (N := 4) rfl ?_); refine box_event ?hg (N := 4) ?hd (cs := #[.bool false, .int .i64 0, .int .i64 0, .int .i64 0, .int .i64 0, .int .i64 0, .int .i64 0, .int .i64 0, .int .i64 0]) (t := 60) ?hr ?_; (case hd => rfl); (case hg => rfl); (case hr => first | (go_simp; done) | (go_simp; rfl)); intro g4 hg_ W3 hbox_ hb_; have GEg4 := Aside0.mk ((by rw [hg_]; exact (below_size HB.out)) : w.heap.size ≤ g4); clear hg_; have n_ := Aside0.mk (below_step HB.out hb_); clear HB; have HB := n_; clear n_; have BKg4 := Aside0.mk hbox_; clear hbox_ hb_; have hcg4_0 : W3.cell? ⟨g4, 0, none⟩ = some (.bool false) := (blk_cell BKg4.out 0).trans rfl; have hfg4_0 := blk_frozen BKg4.out 0; have hcg4_1 : W3.cell? ⟨g4, 1, none⟩ = some (.int .i64 0) := (blk_cell BKg4.out 1).trans rfl; have hfg4_1 := blk_frozen BKg4.out 1; have hcg4_2 : W3.cell? ⟨g4, 2, none⟩ = some (.int .i64 0) := (blk_cell BKg4.out 2).trans rfl; have hfg4_2 := blk_frozen BKg4.out 2; have hcg4_3 : W3.cell? ⟨g4, 3, none⟩ = some (.int .i64 0) := (blk_cell BKg4.out 3).trans rfl; have hfg4_3 := blk_frozen BKg4.out 3; have hcg4_4 : W3.cell? ⟨g4, 4, none⟩ = some (.int .i64 0) := (blk_cell BKg4.out 4).trans rfl; have hfg4_4 := blk_frozen BKg4.out 4; have hcg4_5 : W3.cell? ⟨g4, 5, none⟩ = some (.int .i64 0) := (blk_cell BKg4.out 5).trans rfl; have hfg4_5 := blk_frozen BKg4.out 5; have hcg4_6 : W3.cell? ⟨g4, 6, none⟩ = some (.int .i64 0) := (blk_cell BKg4.out 6).trans rfl; have hfg4_6 := blk_frozen BKg4.out 6; have hcg4_7 : W3.cell? ⟨g4, 7, none⟩ = some (.int .i64 0) := (blk_cell BKg4.out 7).trans rfl; have hfg4_7 := blk_frozen BKg4.out 7; have hcg4_8 : W3.cell? ⟨g4, 8, none⟩ = some (.int .i64 0) := (blk_cell BKg4.out 8).trans rfl; have hfg4_8 := blk_frozen BKg4.out 8))
  have n_ : Aside0 ((((((((((W3.setCell ⟨g4, 0, none⟩ (.bool false)).setCell ⟨g4, 1, none⟩ (.int .i64 ((cdig A) 0))).setCell ⟨g4, 2, none⟩ (.int .i64 ((cdig A) 1))).setCell ⟨g4, 3, none⟩ (.int .i64 ((cdig A) 2))).setCell ⟨g4, 4, none⟩ (.int .i64 ((cdig A) 3))).setCell ⟨g4, 5, none⟩ (.int .i64 ((cdig A) 4))).setCell ⟨g4, 6, none⟩ (.int .i64 ((cdig A) 5))).setCell ⟨g4, 7, none⟩ (.int .i64 ((cdig A) 6))).setCell ⟨g4, 8, none⟩ (.int .i64 ((cdig A) 7))).heap[g4]? = some (.cells #[.bool false, .int .i64 ((cdig A) 0), .int .i64 ((cdig A) 1), .int .i64 ((cdig A) 2), .int .i64 ((cdig A) 3), .int .i64 ((cdig A) 4), .int .i64 ((cdig A) 5), .int .i64 ((cdig A) 6), .int .i64 ((cdig A) 7)] 60 (0, 0))) := ⟨by refine blk_put (cs := #[.bool false, .int .i64 ((cdig A) 0), .int .i64 ((cdig A) 1), .int .i64 ((cdig A) 2), .int .i64 ((cdig A) 3), .int .i64 ((cdig A) 4), .int .i64 ((cdig A) 5), .int .i64 ((cdig A) 6), .int .i64 0]) ?_ 8 _ rfl; refine blk_put (cs := #[.bool false, .int .i64 ((cdig A) 0), .int .i64 ((cdig A) 1), .int .i64 ((cdig A) 2), .int .i64 ((cdig A) 3), .int .i64 ((cdig A) 4), .int .i64 ((cdig A) 5), .int .i64 0, .int .i64 0]) ?_ 7 _ rfl; refine blk_put (cs := #[.bool false, .int .i64 ((cdig A) 0), .int .i64 ((cdig A) 1), .int .i64 ((cdig A) 2), .int .i64 ((cdig A) 3), .int .i64 ((cdig A) 4), .int .i64 0, .int .i64 0, .int .i64 0]) ?_ 6 _ rfl; refine blk_put (cs := #[.bool false, .int .i64 ((cdig A) 0), .int .i64 ((cdig A) 1), .int .i64 ((cdig A) 2), .int .i64 ((cdig A) 3), .int .i64 0, .int .i64 0, .int .i64 0, .int .i64 0]) ?_ 5 _ rfl; refine blk_put (cs := #[.bool false, .int .i64 ((cdig A) 0), .int .i64 ((cdig A) 1), .int .i64 ((cdig A) 2), .int .i64 0, .int .i64 0, .int .i64 0, .int .i64 0, .int .i64 0]) ?_ 4 _ rfl; refine blk_put (cs := #[.bool false, .int .i64 ((cdig A) 0), .int .i64 ((cdig A) 1), .int .i64 0, .int .i64 0, .int .i64 0, .int .i64 0, .int .i64 0, .int .i64 0]) ?_ 3 _ rfl; refine blk_put (cs := #[.bool false, .int .i64 ((cdig A) 0), .int .i64 0, .int .i64 0, .int .i64 0, .int .i64 0, .int .i64 0, .int .i64 0, .int .i64 0]) ?_ 2 _ rfl; refine blk_put (cs := #[.bool false, .int .i64 0, .int .i64 0, .int .i64 0, .int .i64 0, .int .i64 0, .int .i64 0, .int .i64 0, .int .i64 0]) ?_ 1 _ rfl; refine blk_put (cs := #[.bool false, .int .i64 0, .int .i64 0, .int .i64 0, .int .i64 0, .int .i64 0, .int .i64 0, .int .i64 0, .int .i64 0]) ?_ 0 _ rfl; exact BKg4.out⟩
  have b_ : Aside0 (Below w.heap.size w (((((((((W3.setCell ⟨g4, 0, none⟩ (.bool false)).setCell ⟨g4, 1, none⟩ (.int .i64 ((cdig A) 0))).setCell ⟨g4, 2, none⟩ (.int .i64 ((cdig A) 1))).setCell ⟨g4, 3, none⟩ (.int .i64 ((cdig A) 2))).setCell ⟨g4, 4, none⟩ (.int .i64 ((cdig A) 3))).setCell ⟨g4, 5, none⟩ (.int .i64 ((cdig A) 4))).setCell ⟨g4, 6, none⟩ (.int .i64 ((cdig A) 5))).setCell ⟨g4, 7, none⟩ (.int .i64 ((cdig A) 6))).setCell ⟨g4, 8, none⟩ (.int .i64 ((cdig A) 7)))) := ⟨(below_set (below_set (below_set (below_set (below_set (below_set (below_set (below_set (below_set HB.out GEg4.out) GEg4.out) GEg4.out) GEg4.out) GEg4.out) GEg4.out) GEg4.out) GEg4.out) GEg4.out)⟩
  clear BKg4 HB; have BKg4 := n_; have HB := b_; clear n_ b_
  clear hcg4_0 hfg4_0
  clear hcg4_1 hfg4_1
  clear hcg4_2 hfg4_2
  clear hcg4_3 hfg4_3
  clear hcg4_4 hfg4_4
  clear hcg4_5 hfg4_5
  clear hcg4_6 hfg4_6
  clear hcg4_7 hfg4_7
  clear hcg4_8 hfg4_8
  generalize (((((((((W3.setCell ⟨g4, 0, none⟩ (.bool false)).setCell ⟨g4, 1, none⟩ (.int .i64 ((cdig A) 0))).setCell ⟨g4, 2, none⟩ (.int .i64 ((cdig A) 1))).setCell ⟨g4, 3, none⟩ (.int .i64 ((cdig A) 2))).setCell ⟨g4, 4, none⟩ (.int .i64 ((cdig A) 3))).setCell ⟨g4, 5, none⟩ (.int .i64 ((cdig A) 4))).setCell ⟨g4, 6, none⟩ (.int .i64 ((cdig A) 5))).setCell ⟨g4, 7, none⟩ (.int .i64 ((cdig A) 6))).setCell ⟨g4, 8, none⟩ (.int .i64 ((cdig A) 7))) = W4 at *
  have hcg4_0 : W4.cell? ⟨g4, 0, none⟩ = some (.bool false) := (blk_cell BKg4.out 0).trans rfl
  have hfg4_0 := blk_frozen BKg4.out 0
  have hcg4_1 : W4.cell? ⟨g4, 1, none⟩ = some (.int .i64 ((cdig A) 0)) := (blk_cell BKg4.out 1).trans rfl
  have hfg4_1 := blk_frozen BKg4.out 1
  have hcg4_2 : W4.cell? ⟨g4, 2, none⟩ = some (.int .i64 ((cdig A) 1)) := (blk_cell BKg4.out 2).trans rfl
  have hfg4_2 := blk_frozen BKg4.out 2
  have hcg4_3 : W4.cell? ⟨g4, 3, none⟩ = some (.int .i64 ((cdig A) 2)) := (blk_cell BKg4.out 3).trans rfl
  have hfg4_3 := blk_frozen BKg4.out 3
  have hcg4_4 : W4.cell? ⟨g4, 4, none⟩ = some (.int .i64 ((cdig A) 3)) := (blk_cell BKg4.out 4).trans rfl
  have hfg4_4 := blk_frozen BKg4.out 4
  have hcg4_5 : W4.cell? ⟨g4, 5, none⟩ = some (.int .i64 ((cdig A) 4)) := (blk_cell BKg4.out 5).trans rfl
  have hfg4_5 := blk_frozen BKg4.out 5
  have hcg4_6 : W4.cell? ⟨g4, 6, none⟩ = some (.int .i64 ((cdig A) 5)) := (blk_cell BKg4.out 6).trans rfl
  have hfg4_6 := blk_frozen BKg4.out 6
  have hcg4_7 : W4.cell? ⟨g4, 7, none⟩ = some (.int .i64 ((cdig A) 6)) := (blk_cell BKg4.out 7).trans rfl
  have hfg4_7 := blk_frozen BKg4.out 7
  have hcg4_8 : W4.cell? ⟨g4, 8, none⟩ = some (.int .i64 ((cdig A) 7)) := (blk_cell BKg4.out 8).trans rfl
  have hfg4_8 := blk_frozen BKg4.out 8
  go_loopw [5, 6] (fun vn vi wr => ∃ (j : Nat) (n : Int), vn = .int .i64 n ∧ vi = .int .i64 ((j : Int) - 1) ∧ Aside0 (j ≤ 49) ∧ Aside0 (SqR A n j) ∧ Aside0 (wr.heap[g4]? = some (.cells (bigA false (cdig A)) 60 (0, 0))) ∧ Aside0 (Below w.heap.size w wr)) (fun _ vi _ => (intOf vi + 1).toNat)
  case atStart => exact ⟨49, 0, rfl, rfl, ⟨by omega⟩, HS0, BKg4, HB⟩
  case round =>
    clear BKg4 HB HS0 hcg4_0 hfg4_0 hcg4_1 hfg4_1 hcg4_2 hfg4_2 hcg4_3 hfg4_3 hcg4_4 hfg4_4 hcg4_5 hfg4_5 hcg4_6 hfg4_6 hcg4_7 hfg4_7 hcg4_8 hfg4_8
    obtain ⟨j, n, rfl, rfl, Hj, HR, BKg4, HB⟩ := hrel
    have hj := Hj.out; have hN0 := HR.out.1; have hN1 := HR.out.2.1
    cases j with
    | zero =>
      rw [show (((0 : Nat) : Int) - 1) = -1 from rfl]
      go_wp2
      go_ret2
      have hnn : n = n0 := root_one (by have := HR.out; rw [HAA.out] at this; exact sqr_end this) HR0.out
      subst hnn
      exact ⟨rfl, HB.out⟩
    | succ k =>
      rw [show (((k + 1 : Nat) : Int) - 1) = (k : Int) from by omega]
      have hb0 := b2_pos k
      have hb1 := b2_le (show k ≤ 48 by omega); rw [show b2 48 = 281474976710656 by decide] at hb1
      obtain ⟨V, hV⟩ : ∃ V, V = n + b2 k := ⟨_, rfl⟩
      have hV0 : 0 ≤ V := by omega
      have hV1 : V < 844424930131968 := by omega
      have hVI : I64 V := ⟨by omega, by omega⟩
      have hw : wrap64 (n + wrap64 (2 ^ k)) = V := by
        have e : (2 : Int) ^ k = b2 k := by unfold b2; simp
        rw [e, hV]; unfold wrap64; omega
      have HW := Lib.hid hw; have HV := Lib.hid hV; clear hw hV
      have rV : Rep (cdig V) V := rep_cdig hV0 (by omega)
      have hVV := mul_lt V V 844424930131968 ⟨hV0, by omega⟩ ⟨hV0, by omega⟩
      have rVV : Rep (cdig (V * V)) (V * V) := rep_cdig hVV.1 (by omega)
      have HVV := Aside0.mk hVV; clear hVV
      go_wp2
      rw [HW.out]
      have hcase : (V * V ≤ A ∧ cmpI (V * V) A ≤ 0) ∨ (A < V * V ∧ 0 < cmpI (V * V) A) := by
        rcases Int.lt_or_le A (V * V) with c | c
        · exact .inr ⟨c, cmp_gt c⟩
        · exact .inl ⟨c, cmp_le c⟩
      have hq0 : ∀ u : Aft wr, u.w.cell? ⟨g4, 0, none⟩ = some (.bool false) := fun u => (blk_cell (blk_below BKg4.out u.below) 0).trans rfl
      have hq1 : ∀ u : Aft wr, u.w.cell? ⟨g4, 1, none⟩ = some (.int .i64 ((cdig A) 0)) := fun u => (blk_cell (blk_below BKg4.out u.below) 1).trans rfl
      have hq2 : ∀ u : Aft wr, u.w.cell? ⟨g4, 2, none⟩ = some (.int .i64 ((cdig A) 1)) := fun u => (blk_cell (blk_below BKg4.out u.below) 2).trans rfl
      have hq3 : ∀ u : Aft wr, u.w.cell? ⟨g4, 3, none⟩ = some (.int .i64 ((cdig A) 2)) := fun u => (blk_cell (blk_below BKg4.out u.below) 3).trans rfl
      have hq4 : ∀ u : Aft wr, u.w.cell? ⟨g4, 4, none⟩ = some (.int .i64 ((cdig A) 3)) := fun u => (blk_cell (blk_below BKg4.out u.below) 4).trans rfl
      have hq5 : ∀ u : Aft wr, u.w.cell? ⟨g4, 5, none⟩ = some (.int .i64 ((cdig A) 4)) := fun u => (blk_cell (blk_below BKg4.out u.below) 5).trans rfl
      have hq6 : ∀ u : Aft wr, u.w.cell? ⟨g4, 6, none⟩ = some (.int .i64 ((cdig A) 5)) := fun u => (blk_cell (blk_below BKg4.out u.below) 6).trans rfl
      have hq7 : ∀ u : Aft wr, u.w.cell? ⟨g4, 7, none⟩ = some (.int .i64 ((cdig A) 6)) := fun u => (blk_cell (blk_below BKg4.out u.below) 7).trans rfl
      have hq8 : ∀ u : Aft wr, u.w.cell? ⟨g4, 8, none⟩ = some (.int .i64 ((cdig A) 7)) := fun u => (blk_cell (blk_below BKg4.out u.below) 8).trans rfl
      refine wp_region_aft (by kernel_rfl) (by kernel_rfl) ?_
      repeat (go_big_quiet_step (fail))
      go_big_quiet_step (refine aft_call (fun w => of_p V w hVI hV0))
      repeat (go_big_quiet_step (fail))
      go_big_quiet_step (refine aft_call (fun w => of_p V w hVI hV0))
      repeat (go_big_quiet_step (fail))
      go_big_quiet_step (refine aft_call (fun w => times_p V V w rV rV (by omega) (by omega)))
      repeat (go_big_quiet_step (fail))
      go_big_quiet_step (refine aft_call (fun w => compare_ex false false (V * V) A w rVV r3))
      repeat (go_big_quiet_step (fail))
      refine wpQuiet_nil ?_
      intro WN hb_
      clear hq0 hq1 hq2 hq3 hq4 hq5 hq6 hq7 hq8
      have n_ := Aside0.mk (blk_below BKg4.out hb_); clear BKg4; have BKg4 := n_; clear n_
      have n_ := Aside0.mk (below_step HB.out hb_); clear HB; have HB := n_; clear n_ hb_
      rcases hcase with ⟨c1, c2⟩ | ⟨c1, c2⟩
      · go_wp2
        exact ⟨⟨k, V, rfl, rfl, ⟨by omega⟩, ⟨by rw [HV.out]; exact sqr_up (by omega) HR.out (by rw [← HV.out]; exact c1)⟩, BKg4, HB⟩, by simp [intOf]⟩
      · go_wp2
        exact ⟨⟨k, n, rfl, rfl, ⟨by omega⟩, ⟨sqr_stay HR.out (by rw [← HV.out]; omega)⟩, BKg4, HB⟩, by simp [intOf]⟩
end Go.Proofs.YtcnibfancjofhaaDoor

/- The law FixWorks, walked. -/
namespace Go.Proofs.YtcnibfancjofhaaDoor
open Go.RowKit Go.Proofs.YtcnibfancjofhaaDoorW.PrintWords Go.Proofs.YtcnibfancjofhaaDoorW.PrintLast Go.Proofs.YtcnibfancjofhaaDoorW.PrintMore
set_option linter.unusedVariables false
set_option linter.unusedSimpArgs false
theorem drew_below {P : Program} {f : FuncId} {args : Array Value} {v : Ending} {w : World} (h : Calls P f args w fun e w' => e = v ∧ ∃ n, w' = w.drewN n) : Calls P f args w fun e w' => e = v ∧ Below w.heap.size w w' :=
  h.mono fun _ _ ⟨he, n, hn⟩ => ⟨he, by rw [hn]; exact pw_below_drewN (Below.refl _ _) n⟩
theorem in64_hi {a : Int} (h : In64 a) : a ≤ 9223372036854775807 := h.2
set_option maxHeartbeats 8000000 in
set_option maxRecDepth 100000 in
theorem works_1 (a b : Int) (w : World) (ha : In64 a) (hb : In64 b) (hb0 : b = 0) (ha0 : a < 0) :
    Calls Tryd.prog 9 #[.int .i64 a, .int .i64 b] w fun e w' => e = .returned (.bool true) ∧ Below w.heap.size w w' := by
  subst hb0
  have HB := Aside0.mk (Below.refl w.heap.size w)
  go_enter Tryd.func9, Tryd.ntmps9
  go_wp2_with fail
  ((with_reducible refine (awake_calls _).mono ?_); rintro e_ W1 ⟨rfl, hb_⟩)
  have n_ := Aside0.mk (below_step HB.out hb_); clear HB; have HB := n_; clear n_ hb_
  go_wp2_with fail
  ((with_reducible refine (Div_zero _ _).mono ?_); rintro e_ W_ ⟨rfl, rfl⟩)
  go_wp2_with fail
  ((with_reducible refine (Sqrt_neg a _ ha0).mono ?_); rintro e_ W_ ⟨rfl, rfl⟩)
  go_wp2_with fail
  ((with_reducible refine (rdiv_zero _ _).mono ?_); rintro e_ W2 ⟨rfl, hb_⟩)
  have n_ := Aside0.mk (below_step HB.out hb_); clear HB; have HB := n_; clear n_ hb_
  go_wp2_with fail
  ((with_reducible refine (rsqrt_neg a _ ha0).mono ?_); rintro e_ W3 ⟨rfl, hb_⟩)
  have n_ := Aside0.mk (below_step HB.out hb_); clear HB; have HB := n_; clear n_ hb_
  go_wp2_with fail
  ((with_reducible refine (Add_calls a 0 _ ha hb).mono ?_); rintro e_ W_ ⟨rfl, rfl⟩)
  go_wp2_with fail
  ((with_reducible refine (drew_below (rAdd_calls a 0 _ ha hb)).mono ?_); rintro e_ W4 ⟨rfl, hb_⟩)
  have n_ := Aside0.mk (below_step HB.out hb_); clear HB; have HB := n_; clear n_ hb_
  go_wp2_with fail
  ((with_reducible refine (Sub_calls a 0 _ ha hb).mono ?_); rintro e_ W_ ⟨rfl, rfl⟩)
  go_wp2_with fail
  ((with_reducible refine (drew_below (rSub_calls a 0 _ ha hb)).mono ?_); rintro e_ W5 ⟨rfl, hb_⟩)
  have n_ := Aside0.mk (below_step HB.out hb_); clear HB; have HB := n_; clear n_ hb_
  go_wp2_with fail
  ((with_reducible refine (Mul_calls a 0 _ ha hb).mono ?_); rintro e_ W_ ⟨rfl, rfl⟩)
  go_wp2_with fail
  ((with_reducible refine (rmul_calls a 0 _ (i64_of ha) (i64_of hb)).mono ?_); rintro e_ W6 ⟨rfl, hb_⟩)
  have n_ := Aside0.mk (below_step HB.out hb_); clear HB; have HB := n_; clear n_ hb_
  go_wp2_with fail
  ((with_reducible refine (From_calls a _ ha).mono ?_); rintro e_ W_ ⟨rfl, rfl⟩)
  go_wp2_with fail
  ((with_reducible refine (rfrom_calls a _ (i64_of ha)).mono ?_); rintro e_ W7 ⟨rfl, hb_⟩)
  have n_ := Aside0.mk (below_step HB.out hb_); clear HB; have HB := n_; clear n_ hb_
  go_wp2_with fail
  ((with_reducible refine (To_calls a _ ha).mono ?_); rintro e_ W_ ⟨rfl, rfl⟩)
  go_wp2_with fail
  ((with_reducible refine (rto_calls a _ (i64_of ha)).mono ?_); rintro e_ W8 ⟨rfl, hb_⟩)
  have n_ := Aside0.mk (below_step HB.out hb_); clear HB; have HB := n_; clear n_ hb_
  go_wp2
  go_ret
  exact ⟨rfl, HB.out⟩
set_option maxHeartbeats 8000000 in
set_option maxRecDepth 100000 in
theorem works_2 (a b : Int) (w : World) (ha : In64 a) (hb : In64 b) (hb0 : b = 0) (ha0 : 0 ≤ a) :
    Calls Tryd.prog 9 #[.int .i64 a, .int .i64 b] w fun e w' => e = .returned (.bool true) ∧ Below w.heap.size w w' := by
  subst hb0
  have HB := Aside0.mk (Below.refl w.heap.size w)
  go_enter Tryd.func9, Tryd.ntmps9
  go_wp2_with fail
  ((with_reducible refine (awake_calls _).mono ?_); rintro e_ W9 ⟨rfl, hb_⟩)
  have n_ := Aside0.mk (below_step HB.out hb_); clear HB; have HB := n_; clear n_ hb_
  go_wp2_with fail
  ((with_reducible refine (Div_zero _ _).mono ?_); rintro e_ W_ ⟨rfl, rfl⟩)
  go_wp2_with fail
  ((with_reducible refine (Sqrt_calls a _ ha0 (in64_hi ha)).mono ?_); rintro e_ W_ ⟨n, rfl, rfl, hroot⟩)
  have HR := Aside0.mk hroot; clear hroot
  go_wp2_with fail
  ((with_reducible refine (rdiv_zero _ _).mono ?_); rintro e_ W10 ⟨rfl, hb_⟩)
  have n_ := Aside0.mk (below_step HB.out hb_); clear HB; have HB := n_; clear n_ hb_
  go_wp2_with fail
  ((with_reducible refine (rsqrt_calls a n _ ha0 (in64_hi ha) HR.out).mono ?_); rintro e_ W11 ⟨rfl, hb_⟩)
  have n_ := Aside0.mk (below_step HB.out hb_); clear HB; have HB := n_; clear n_ hb_
  go_wp2_with fail
  ((with_reducible refine (Add_calls a 0 _ ha hb).mono ?_); rintro e_ W_ ⟨rfl, rfl⟩)
  go_wp2_with fail
  ((with_reducible refine (drew_below (rAdd_calls a 0 _ ha hb)).mono ?_); rintro e_ W12 ⟨rfl, hb_⟩)
  have n_ := Aside0.mk (below_step HB.out hb_); clear HB; have HB := n_; clear n_ hb_
  go_wp2_with fail
  ((with_reducible refine (Sub_calls a 0 _ ha hb).mono ?_); rintro e_ W_ ⟨rfl, rfl⟩)
  go_wp2_with fail
  ((with_reducible refine (drew_below (rSub_calls a 0 _ ha hb)).mono ?_); rintro e_ W13 ⟨rfl, hb_⟩)
  have n_ := Aside0.mk (below_step HB.out hb_); clear HB; have HB := n_; clear n_ hb_
  go_wp2_with fail
  ((with_reducible refine (Mul_calls a 0 _ ha hb).mono ?_); rintro e_ W_ ⟨rfl, rfl⟩)
  go_wp2_with fail
  ((with_reducible refine (rmul_calls a 0 _ (i64_of ha) (i64_of hb)).mono ?_); rintro e_ W14 ⟨rfl, hb_⟩)
  have n_ := Aside0.mk (below_step HB.out hb_); clear HB; have HB := n_; clear n_ hb_
  go_wp2_with fail
  ((with_reducible refine (From_calls a _ ha).mono ?_); rintro e_ W_ ⟨rfl, rfl⟩)
  go_wp2_with fail
  ((with_reducible refine (rfrom_calls a _ (i64_of ha)).mono ?_); rintro e_ W15 ⟨rfl, hb_⟩)
  have n_ := Aside0.mk (below_step HB.out hb_); clear HB; have HB := n_; clear n_ hb_
  go_wp2_with fail
  ((with_reducible refine (To_calls a _ ha).mono ?_); rintro e_ W_ ⟨rfl, rfl⟩)
  go_wp2_with fail
  ((with_reducible refine (rto_calls a _ (i64_of ha)).mono ?_); rintro e_ W16 ⟨rfl, hb_⟩)
  have n_ := Aside0.mk (below_step HB.out hb_); clear HB; have HB := n_; clear n_ hb_
  go_wp2
  go_ret
  exact ⟨rfl, HB.out⟩
set_option maxHeartbeats 8000000 in
set_option maxRecDepth 100000 in
theorem works_3 (a b : Int) (w : World) (ha : In64 a) (hb : In64 b) (hb0 : b ≠ 0) (ha0 : a < 0) :
    Calls Tryd.prog 9 #[.int .i64 a, .int .i64 b] w fun e w' => e = .returned (.bool true) ∧ Below w.heap.size w w' := by
  have HB0 := Lib.hid hb0; clear hb0
  have HB := Aside0.mk (Below.refl w.heap.size w)
  go_enter Tryd.func9, Tryd.ntmps9
  go_wp2_with fail
  ((with_reducible refine (awake_calls _).mono ?_); rintro e_ W17 ⟨rfl, hb_⟩)
  have n_ := Aside0.mk (below_step HB.out hb_); clear HB; have HB := n_; clear n_ hb_
  go_wp2_with fail
  ((with_reducible refine (drew_below (Div_calls a b _ ha hb HB0.out)).mono ?_); rintro e_ W18 ⟨rfl, hb_⟩)
  have n_ := Aside0.mk (below_step HB.out hb_); clear HB; have HB := n_; clear n_ hb_
  go_wp2_with fail
  ((with_reducible refine (Sqrt_neg a _ ha0).mono ?_); rintro e_ W_ ⟨rfl, rfl⟩)
  go_wp2_with fail
  ((with_reducible refine (rdiv_calls a b _ (i64_of ha) (i64_of hb) HB0.out).mono ?_); rintro e_ W19 ⟨rfl, hb_⟩)
  have n_ := Aside0.mk (below_step HB.out hb_); clear HB; have HB := n_; clear n_ hb_
  go_wp2_with fail
  ((with_reducible refine (rsqrt_neg a _ ha0).mono ?_); rintro e_ W20 ⟨rfl, hb_⟩)
  have n_ := Aside0.mk (below_step HB.out hb_); clear HB; have HB := n_; clear n_ hb_
  go_wp2_with fail
  ((with_reducible refine (Add_calls a b _ ha hb).mono ?_); rintro e_ W_ ⟨rfl, rfl⟩)
  go_wp2_with fail
  ((with_reducible refine (drew_below (rAdd_calls a b _ ha hb)).mono ?_); rintro e_ W21 ⟨rfl, hb_⟩)
  have n_ := Aside0.mk (below_step HB.out hb_); clear HB; have HB := n_; clear n_ hb_
  go_wp2_with fail
  ((with_reducible refine (Sub_calls a b _ ha hb).mono ?_); rintro e_ W_ ⟨rfl, rfl⟩)
  go_wp2_with fail
  ((with_reducible refine (drew_below (rSub_calls a b _ ha hb)).mono ?_); rintro e_ W22 ⟨rfl, hb_⟩)
  have n_ := Aside0.mk (below_step HB.out hb_); clear HB; have HB := n_; clear n_ hb_
  go_wp2_with fail
  ((with_reducible refine (Mul_calls a b _ ha hb).mono ?_); rintro e_ W_ ⟨rfl, rfl⟩)
  go_wp2_with fail
  ((with_reducible refine (rmul_calls a b _ (i64_of ha) (i64_of hb)).mono ?_); rintro e_ W23 ⟨rfl, hb_⟩)
  have n_ := Aside0.mk (below_step HB.out hb_); clear HB; have HB := n_; clear n_ hb_
  go_wp2_with fail
  ((with_reducible refine (From_calls a _ ha).mono ?_); rintro e_ W_ ⟨rfl, rfl⟩)
  go_wp2_with fail
  ((with_reducible refine (rfrom_calls a _ (i64_of ha)).mono ?_); rintro e_ W24 ⟨rfl, hb_⟩)
  have n_ := Aside0.mk (below_step HB.out hb_); clear HB; have HB := n_; clear n_ hb_
  go_wp2_with fail
  ((with_reducible refine (To_calls a _ ha).mono ?_); rintro e_ W_ ⟨rfl, rfl⟩)
  go_wp2_with fail
  ((with_reducible refine (rto_calls a _ (i64_of ha)).mono ?_); rintro e_ W25 ⟨rfl, hb_⟩)
  have n_ := Aside0.mk (below_step HB.out hb_); clear HB; have HB := n_; clear n_ hb_
  go_wp2
  go_ret
  exact ⟨rfl, HB.out⟩
set_option maxHeartbeats 8000000 in
set_option maxRecDepth 100000 in
theorem works_4 (a b : Int) (w : World) (ha : In64 a) (hb : In64 b) (hb0 : b ≠ 0) (ha0 : 0 ≤ a) :
    Calls Tryd.prog 9 #[.int .i64 a, .int .i64 b] w fun e w' => e = .returned (.bool true) ∧ Below w.heap.size w w' := by
  have HB0 := Lib.hid hb0; clear hb0
  have HB := Aside0.mk (Below.refl w.heap.size w)
  go_enter Tryd.func9, Tryd.ntmps9
  go_wp2_with fail
  ((with_reducible refine (awake_calls _).mono ?_); rintro e_ W26 ⟨rfl, hb_⟩)
  have n_ := Aside0.mk (below_step HB.out hb_); clear HB; have HB := n_; clear n_ hb_
  go_wp2_with fail
  ((with_reducible refine (drew_below (Div_calls a b _ ha hb HB0.out)).mono ?_); rintro e_ W27 ⟨rfl, hb_⟩)
  have n_ := Aside0.mk (below_step HB.out hb_); clear HB; have HB := n_; clear n_ hb_
  go_wp2_with fail
  ((with_reducible refine (Sqrt_calls a _ ha0 (in64_hi ha)).mono ?_); rintro e_ W_ ⟨n, rfl, rfl, hroot⟩)
  have HR := Aside0.mk hroot; clear hroot
  go_wp2_with fail
  ((with_reducible refine (rdiv_calls a b _ (i64_of ha) (i64_of hb) HB0.out).mono ?_); rintro e_ W28 ⟨rfl, hb_⟩)
  have n_ := Aside0.mk (below_step HB.out hb_); clear HB; have HB := n_; clear n_ hb_
  go_wp2_with fail
  ((with_reducible refine (rsqrt_calls a n _ ha0 (in64_hi ha) HR.out).mono ?_); rintro e_ W29 ⟨rfl, hb_⟩)
  have n_ := Aside0.mk (below_step HB.out hb_); clear HB; have HB := n_; clear n_ hb_
  go_wp2_with fail
  ((with_reducible refine (Add_calls a b _ ha hb).mono ?_); rintro e_ W_ ⟨rfl, rfl⟩)
  go_wp2_with fail
  ((with_reducible refine (drew_below (rAdd_calls a b _ ha hb)).mono ?_); rintro e_ W30 ⟨rfl, hb_⟩)
  have n_ := Aside0.mk (below_step HB.out hb_); clear HB; have HB := n_; clear n_ hb_
  go_wp2_with fail
  ((with_reducible refine (Sub_calls a b _ ha hb).mono ?_); rintro e_ W_ ⟨rfl, rfl⟩)
  go_wp2_with fail
  ((with_reducible refine (drew_below (rSub_calls a b _ ha hb)).mono ?_); rintro e_ W31 ⟨rfl, hb_⟩)
  have n_ := Aside0.mk (below_step HB.out hb_); clear HB; have HB := n_; clear n_ hb_
  go_wp2_with fail
  ((with_reducible refine (Mul_calls a b _ ha hb).mono ?_); rintro e_ W_ ⟨rfl, rfl⟩)
  go_wp2_with fail
  ((with_reducible refine (rmul_calls a b _ (i64_of ha) (i64_of hb)).mono ?_); rintro e_ W32 ⟨rfl, hb_⟩)
  have n_ := Aside0.mk (below_step HB.out hb_); clear HB; have HB := n_; clear n_ hb_
  go_wp2_with fail
  ((with_reducible refine (From_calls a _ ha).mono ?_); rintro e_ W_ ⟨rfl, rfl⟩)
  go_wp2_with fail
  ((with_reducible refine (rfrom_calls a _ (i64_of ha)).mono ?_); rintro e_ W33 ⟨rfl, hb_⟩)
  have n_ := Aside0.mk (below_step HB.out hb_); clear HB; have HB := n_; clear n_ hb_
  go_wp2_with fail
  ((with_reducible refine (To_calls a _ ha).mono ?_); rintro e_ W_ ⟨rfl, rfl⟩)
  go_wp2_with fail
  ((with_reducible refine (rto_calls a _ (i64_of ha)).mono ?_); rintro e_ W34 ⟨rfl, hb_⟩)
  have n_ := Aside0.mk (below_step HB.out hb_); clear HB; have HB := n_; clear n_ hb_
  go_wp2
  go_ret
  exact ⟨rfl, HB.out⟩
theorem FixWorks_calls (a b : Int) (w : World) (ha : -9223372036854775808 ≤ a ∧ a ≤ 9223372036854775807) (hb : -9223372036854775808 ≤ b ∧ b ≤ 9223372036854775807) :
    Calls Tryd.prog 9 #[.int .i64 a, .int .i64 b] w fun e w' => e = .returned (.bool true) ∧ Below w.heap.size w w' := by
  by_cases hb0 : b = 0 <;> rcases Int.lt_or_le a 0 with ha0 | ha0
  · exact works_1 a b w ha hb hb0 ha0
  · exact works_2 a b w ha hb hb0 ha0
  · exact works_3 a b w ha hb hb0 ha0
  · exact works_4 a b w ha hb hb0 ha0
end Go.Proofs.YtcnibfancjofhaaDoor
