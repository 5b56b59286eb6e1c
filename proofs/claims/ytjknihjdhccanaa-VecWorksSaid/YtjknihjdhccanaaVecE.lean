/- The walks of Add, Sub, Dot, Mean, Near, Clamp, Scale. Printed by gen_e.py. -/
import Derived.Test.YtjknihjdhccanaaVecD
namespace Go.Proofs.Ytjknihjdhccanaa
open Go.RowKit Go.Proofs.YtjknihjdhccanaaW.PrintWords Go.Proofs.YtjknihjdhccanaaW.PrintLast Go.Proofs.YtjknihjdhccanaaW.PrintMore
set_option linter.unusedVariables false
set_option linter.unusedSimpArgs false

set_option maxHeartbeats 1000000 in
set_option maxRecDepth 100000 in
theorem vadd_calls (a b c d : Int) (w : World) (ha : I64 a) (hb : I64 b) (hc : I64 c) (hd : I64 d) :
    Calls Try.prog 18 #[.agg #[.int .i64 a, .int .i64 b], .agg #[.int .i64 c, .int .i64 d]] w
      fun e w' => e = .returned (.agg #[.int .i64 (sat (a + c)), .int .i64 (sat (b + d))]) ∧ Below w.heap.size w w' := by
  have HB := Aside0.mk (Below.refl w.heap.size w)
  go_enter Try.func18, Try.ntmps18
  go_wp2_with (first | ((with_reducible refine gate_dst (N := 2) rfl ?_); refine box_event ?hg (N := 2) ?hd (cs := #[.int .i64 a, .int .i64 b]) (t := 23) ?hr ?_; (case hd => rfl); (case hg => rfl); (case hr => first | (go_simp; done) | (go_simp; rfl)); intro g1 hg_ W1 hbox_ hb_; have GEg1 := Aside0.mk ((by rw [hg_]; exact (below_size HB.out)) : w.heap.size ≤ g1); clear hg_; have n_ := Aside0.mk (below_step HB.out hb_); clear HB; have HB := n_; clear n_; have BKg1 := Aside0.mk hbox_; clear hbox_ hb_; have hcg1_0 : W1.cell? ⟨g1, 0, none⟩ = some (.int .i64 a) := (blk_cell BKg1.out 0).trans rfl; have hfg1_0 := blk_frozen BKg1.out 0; have hcg1_1 : W1.cell? ⟨g1, 1, none⟩ = some (.int .i64 b) := (blk_cell BKg1.out 1).trans rfl; have hfg1_1 := blk_frozen BKg1.out 1) | ((with_reducible refine gate_dst (N := 3) rfl ?_); refine box_event ?hg (N := 3) ?hd (cs := #[.int .i64 c, .int .i64 d]) (t := 23) ?hr ?_; (case hd => rfl); (case hg => rfl); (case hr => first | (go_simp; done) | (go_simp; rfl)); intro g2 hg_ W2 hbox_ hb_; have GEg2 := Aside0.mk ((by rw [hg_]; exact (below_size HB.out)) : w.heap.size ≤ g2); have NBg1_g2 : g1 ≠ g2 := (by rw [hg_]; exact Nat.ne_of_lt (blk_lt BKg1.out)); have NBg2_g1 : g2 ≠ g1 := Ne.symm NBg1_g2; clear hg_; have n_ := Aside0.mk (blk_below BKg1.out hb_); clear BKg1; have BKg1 := n_; clear n_; clear hcg1_0 hfg1_0; clear hcg1_1 hfg1_1; have n_ := Aside0.mk (below_step HB.out hb_); clear HB; have HB := n_; clear n_; have BKg2 := Aside0.mk hbox_; clear hbox_ hb_; have hcg1_0 : W2.cell? ⟨g1, 0, none⟩ = some (.int .i64 a) := (blk_cell BKg1.out 0).trans rfl; have hfg1_0 := blk_frozen BKg1.out 0; have hcg1_1 : W2.cell? ⟨g1, 1, none⟩ = some (.int .i64 b) := (blk_cell BKg1.out 1).trans rfl; have hfg1_1 := blk_frozen BKg1.out 1; have hcg2_0 : W2.cell? ⟨g2, 0, none⟩ = some (.int .i64 c) := (blk_cell BKg2.out 0).trans rfl; have hfg2_0 := blk_frozen BKg2.out 0; have hcg2_1 : W2.cell? ⟨g2, 1, none⟩ = some (.int .i64 d) := (blk_cell BKg2.out 1).trans rfl; have hfg2_1 := blk_frozen BKg2.out 1) | ((with_reducible refine gate_dst (N := 4) rfl ?_); refine box_event ?hg (N := 4) ?hd (cs := #[.int .i64 0, .int .i64 0]) (t := 23) ?hr ?_; (case hd => rfl); (case hg => rfl); (case hr => first | (go_simp; done) | (go_simp; rfl)); intro g3 hg_ W3 hbox_ hb_; have GEg3 := Aside0.mk ((by rw [hg_]; exact (below_size HB.out)) : w.heap.size ≤ g3); have NBg1_g3 : g1 ≠ g3 := (by rw [hg_]; exact Nat.ne_of_lt (blk_lt BKg1.out)); have NBg3_g1 : g3 ≠ g1 := Ne.symm NBg1_g3; have NBg2_g3 : g2 ≠ g3 := (by rw [hg_]; exact Nat.ne_of_lt (blk_lt BKg2.out)); have NBg3_g2 : g3 ≠ g2 := Ne.symm NBg2_g3; clear hg_; have n_ := Aside0.mk (blk_below BKg1.out hb_); clear BKg1; have BKg1 := n_; clear n_; clear hcg1_0 hfg1_0; clear hcg1_1 hfg1_1; have n_ := Aside0.mk (blk_below BKg2.out hb_); clear BKg2; have BKg2 := n_; clear n_; clear hcg2_0 hfg2_0; clear hcg2_1 hfg2_1; have n_ := Aside0.mk (below_step HB.out hb_); clear HB; have HB := n_; clear n_; have BKg3 := Aside0.mk hbox_; clear hbox_ hb_; have hcg1_0 : W3.cell? ⟨g1, 0, none⟩ = some (.int .i64 a) := (blk_cell BKg1.out 0).trans rfl; have hfg1_0 := blk_frozen BKg1.out 0; have hcg1_1 : W3.cell? ⟨g1, 1, none⟩ = some (.int .i64 b) := (blk_cell BKg1.out 1).trans rfl; have hfg1_1 := blk_frozen BKg1.out 1; have hcg2_0 : W3.cell? ⟨g2, 0, none⟩ = some (.int .i64 c) := (blk_cell BKg2.out 0).trans rfl; have hfg2_0 := blk_frozen BKg2.out 0; have hcg2_1 : W3.cell? ⟨g2, 1, none⟩ = some (.int .i64 d) := (blk_cell BKg2.out 1).trans rfl; have hfg2_1 := blk_frozen BKg2.out 1; have hcg3_0 : W3.cell? ⟨g3, 0, none⟩ = some (.int .i64 0) := (blk_cell BKg3.out 0).trans rfl; have hfg3_0 := blk_frozen BKg3.out 0; have hcg3_1 : W3.cell? ⟨g3, 1, none⟩ = some (.int .i64 0) := (blk_cell BKg3.out 1).trans rfl; have hfg3_1 := blk_frozen BKg3.out 1))
  ((with_reducible refine (both_add _ _ _ _ _ ha hb hc hd).mono ?_); rintro e_ W4 ⟨rfl, hb_⟩)
  have n_ := Aside0.mk (blk_below BKg1.out hb_); clear BKg1; have BKg1 := n_; clear n_
  clear hcg1_0 hfg1_0
  clear hcg1_1 hfg1_1
  have n_ := Aside0.mk (blk_below BKg2.out hb_); clear BKg2; have BKg2 := n_; clear n_
  clear hcg2_0 hfg2_0
  clear hcg2_1 hfg2_1
  have n_ := Aside0.mk (blk_below BKg3.out hb_); clear BKg3; have BKg3 := n_; clear n_
  clear hcg3_0 hfg3_0
  clear hcg3_1 hfg3_1
  have n_ := Aside0.mk (below_step HB.out hb_); clear HB; have HB := n_; clear n_
  clear hb_
  have hcg1_0 : W4.cell? ⟨g1, 0, none⟩ = some (.int .i64 a) := (blk_cell BKg1.out 0).trans rfl
  have hfg1_0 := blk_frozen BKg1.out 0
  have hcg1_1 : W4.cell? ⟨g1, 1, none⟩ = some (.int .i64 b) := (blk_cell BKg1.out 1).trans rfl
  have hfg1_1 := blk_frozen BKg1.out 1
  have hcg2_0 : W4.cell? ⟨g2, 0, none⟩ = some (.int .i64 c) := (blk_cell BKg2.out 0).trans rfl
  have hfg2_0 := blk_frozen BKg2.out 0
  have hcg2_1 : W4.cell? ⟨g2, 1, none⟩ = some (.int .i64 d) := (blk_cell BKg2.out 1).trans rfl
  have hfg2_1 := blk_frozen BKg2.out 1
  have hcg3_0 : W4.cell? ⟨g3, 0, none⟩ = some (.int .i64 0) := (blk_cell BKg3.out 0).trans rfl
  have hfg3_0 := blk_frozen BKg3.out 0
  have hcg3_1 : W4.cell? ⟨g3, 1, none⟩ = some (.int .i64 0) := (blk_cell BKg3.out 1).trans rfl
  have hfg3_1 := blk_frozen BKg3.out 1
  go_wp2_with fail
  ((with_reducible refine (made_calls _ _ _).mono ?_); rintro e_ W5 ⟨rfl, hb_⟩)
  have n_ := Aside0.mk (blk_below BKg1.out hb_); clear BKg1; have BKg1 := n_; clear n_
  clear hcg1_0 hfg1_0
  clear hcg1_1 hfg1_1
  have n_ := Aside0.mk (blk_below BKg2.out hb_); clear BKg2; have BKg2 := n_; clear n_
  clear hcg2_0 hfg2_0
  clear hcg2_1 hfg2_1
  have n_ := Aside0.mk (blk_below BKg3.out hb_); clear BKg3; have BKg3 := n_; clear n_
  clear hcg3_0 hfg3_0
  clear hcg3_1 hfg3_1
  have n_ := Aside0.mk (below_step HB.out hb_); clear HB; have HB := n_; clear n_
  clear hb_
  have hcg1_0 : W5.cell? ⟨g1, 0, none⟩ = some (.int .i64 a) := (blk_cell BKg1.out 0).trans rfl
  have hfg1_0 := blk_frozen BKg1.out 0
  have hcg1_1 : W5.cell? ⟨g1, 1, none⟩ = some (.int .i64 b) := (blk_cell BKg1.out 1).trans rfl
  have hfg1_1 := blk_frozen BKg1.out 1
  have hcg2_0 : W5.cell? ⟨g2, 0, none⟩ = some (.int .i64 c) := (blk_cell BKg2.out 0).trans rfl
  have hfg2_0 := blk_frozen BKg2.out 0
  have hcg2_1 : W5.cell? ⟨g2, 1, none⟩ = some (.int .i64 d) := (blk_cell BKg2.out 1).trans rfl
  have hfg2_1 := blk_frozen BKg2.out 1
  have hcg3_0 : W5.cell? ⟨g3, 0, none⟩ = some (.int .i64 0) := (blk_cell BKg3.out 0).trans rfl
  have hfg3_0 := blk_frozen BKg3.out 0
  have hcg3_1 : W5.cell? ⟨g3, 1, none⟩ = some (.int .i64 0) := (blk_cell BKg3.out 1).trans rfl
  have hfg3_1 := blk_frozen BKg3.out 1
  go_wp2
  refine bodyPost_ret (results_cell_row rfl _ _ g3 23 #[.int .i64 (sat (a + c)), .int .i64 (sat (b + d))] (0, 0) _ rfl (by (with_reducible repeat (first | refine blk_drewN ?_ _ | refine blk_drew ?_ | refine blk_alloc ?_ _)); refine blk_put (cs := #[.int .i64 (sat (a + c)), .int .i64 0]) ?_ 1 _ rfl; (with_reducible repeat (first | refine blk_drewN ?_ _ | refine blk_drew ?_ | refine blk_alloc ?_ _)); refine blk_put (cs := #[.int .i64 0, .int .i64 0]) ?_ 0 _ rfl; (with_reducible repeat (first | refine blk_drewN ?_ _ | refine blk_drew ?_ | refine blk_alloc ?_ _)); exact BKg3.out) Try.underlying23 rfl (by kernel_rfl)) rfl ?_
  exact ⟨rfl, by repeat (first | (with_reducible first | exact HB.out | apply below_alloc | apply pw_below_drewN | apply below_drew1 | refine below_set ?_ GEg3.out) | exact HB.out)⟩

set_option maxHeartbeats 1000000 in
set_option maxRecDepth 100000 in
theorem vsub_calls (a b c d : Int) (w : World) (ha : I64 a) (hb : I64 b) (hc : I64 c) (hd : I64 d) :
    Calls Try.prog 19 #[.agg #[.int .i64 a, .int .i64 b], .agg #[.int .i64 c, .int .i64 d]] w
      fun e w' => e = .returned (.agg #[.int .i64 (sat (a - c)), .int .i64 (sat (b - d))]) ∧ Below w.heap.size w w' := by
  have HB := Aside0.mk (Below.refl w.heap.size w)
  go_enter Try.func19, Try.ntmps19
  go_wp2_with (first | ((with_reducible refine gate_dst (N := 2) rfl ?_); refine box_event ?hg (N := 2) ?hd (cs := #[.int .i64 a, .int .i64 b]) (t := 23) ?hr ?_; (case hd => rfl); (case hg => rfl); (case hr => first | (go_simp; done) | (go_simp; rfl)); intro g1 hg_ W1 hbox_ hb_; have GEg1 := Aside0.mk ((by rw [hg_]; exact (below_size HB.out)) : w.heap.size ≤ g1); clear hg_; have n_ := Aside0.mk (below_step HB.out hb_); clear HB; have HB := n_; clear n_; have BKg1 := Aside0.mk hbox_; clear hbox_ hb_; have hcg1_0 : W1.cell? ⟨g1, 0, none⟩ = some (.int .i64 a) := (blk_cell BKg1.out 0).trans rfl; have hfg1_0 := blk_frozen BKg1.out 0; have hcg1_1 : W1.cell? ⟨g1, 1, none⟩ = some (.int .i64 b) := (blk_cell BKg1.out 1).trans rfl; have hfg1_1 := blk_frozen BKg1.out 1) | ((with_reducible refine gate_dst (N := 3) rfl ?_); refine box_event ?hg (N := 3) ?hd (cs := #[.int .i64 c, .int .i64 d]) (t := 23) ?hr ?_; (case hd => rfl); (case hg => rfl); (case hr => first | (go_simp; done) | (go_simp; rfl)); intro g2 hg_ W2 hbox_ hb_; have GEg2 := Aside0.mk ((by rw [hg_]; exact (below_size HB.out)) : w.heap.size ≤ g2); have NBg1_g2 : g1 ≠ g2 := (by rw [hg_]; exact Nat.ne_of_lt (blk_lt BKg1.out)); have NBg2_g1 : g2 ≠ g1 := Ne.symm NBg1_g2; clear hg_; have n_ := Aside0.mk (blk_below BKg1.out hb_); clear BKg1; have BKg1 := n_; clear n_; clear hcg1_0 hfg1_0; clear hcg1_1 hfg1_1; have n_ := Aside0.mk (below_step HB.out hb_); clear HB; have HB := n_; clear n_; have BKg2 := Aside0.mk hbox_; clear hbox_ hb_; have hcg1_0 : W2.cell? ⟨g1, 0, none⟩ = some (.int .i64 a) := (blk_cell BKg1.out 0).trans rfl; have hfg1_0 := blk_frozen BKg1.out 0; have hcg1_1 : W2.cell? ⟨g1, 1, none⟩ = some (.int .i64 b) := (blk_cell BKg1.out 1).trans rfl; have hfg1_1 := blk_frozen BKg1.out 1; have hcg2_0 : W2.cell? ⟨g2, 0, none⟩ = some (.int .i64 c) := (blk_cell BKg2.out 0).trans rfl; have hfg2_0 := blk_frozen BKg2.out 0; have hcg2_1 : W2.cell? ⟨g2, 1, none⟩ = some (.int .i64 d) := (blk_cell BKg2.out 1).trans rfl; have hfg2_1 := blk_frozen BKg2.out 1) | ((with_reducible refine gate_dst (N := 4) rfl ?_); refine box_event ?hg (N := 4) ?hd (cs := #[.int .i64 0, .int .i64 0]) (t := 23) ?hr ?_; (case hd => rfl); (case hg => rfl); (case hr => first | (go_simp; done) | (go_simp; rfl)); intro g3 hg_ W3 hbox_ hb_; have GEg3 := Aside0.mk ((by rw [hg_]; exact (below_size HB.out)) : w.heap.size ≤ g3); have NBg1_g3 : g1 ≠ g3 := (by rw [hg_]; exact Nat.ne_of_lt (blk_lt BKg1.out)); have NBg3_g1 : g3 ≠ g1 := Ne.symm NBg1_g3; have NBg2_g3 : g2 ≠ g3 := (by rw [hg_]; exact Nat.ne_of_lt (blk_lt BKg2.out)); have NBg3_g2 : g3 ≠ g2 := Ne.symm NBg2_g3; clear hg_; have n_ := Aside0.mk (blk_below BKg1.out hb_); clear BKg1; have BKg1 := n_; clear n_; clear hcg1_0 hfg1_0; clear hcg1_1 hfg1_1; have n_ := Aside0.mk (blk_below BKg2.out hb_); clear BKg2; have BKg2 := n_; clear n_; clear hcg2_0 hfg2_0; clear hcg2_1 hfg2_1; have n_ := Aside0.mk (below_step HB.out hb_); clear HB; have HB := n_; clear n_; have BKg3 := Aside0.mk hbox_; clear hbox_ hb_; have hcg1_0 : W3.cell? ⟨g1, 0, none⟩ = some (.int .i64 a) := (blk_cell BKg1.out 0).trans rfl; have hfg1_0 := blk_frozen BKg1.out 0; have hcg1_1 : W3.cell? ⟨g1, 1, none⟩ = some (.int .i64 b) := (blk_cell BKg1.out 1).trans rfl; have hfg1_1 := blk_frozen BKg1.out 1; have hcg2_0 : W3.cell? ⟨g2, 0, none⟩ = some (.int .i64 c) := (blk_cell BKg2.out 0).trans rfl; have hfg2_0 := blk_frozen BKg2.out 0; have hcg2_1 : W3.cell? ⟨g2, 1, none⟩ = some (.int .i64 d) := (blk_cell BKg2.out 1).trans rfl; have hfg2_1 := blk_frozen BKg2.out 1; have hcg3_0 : W3.cell? ⟨g3, 0, none⟩ = some (.int .i64 0) := (blk_cell BKg3.out 0).trans rfl; have hfg3_0 := blk_frozen BKg3.out 0; have hcg3_1 : W3.cell? ⟨g3, 1, none⟩ = some (.int .i64 0) := (blk_cell BKg3.out 1).trans rfl; have hfg3_1 := blk_frozen BKg3.out 1))
  ((with_reducible refine (both_sub _ _ _ _ _ ha hb hc hd).mono ?_); rintro e_ W4 ⟨rfl, hb_⟩)
  have n_ := Aside0.mk (blk_below BKg1.out hb_); clear BKg1; have BKg1 := n_; clear n_
  clear hcg1_0 hfg1_0
  clear hcg1_1 hfg1_1
  have n_ := Aside0.mk (blk_below BKg2.out hb_); clear BKg2; have BKg2 := n_; clear n_
  clear hcg2_0 hfg2_0
  clear hcg2_1 hfg2_1
  have n_ := Aside0.mk (blk_below BKg3.out hb_); clear BKg3; have BKg3 := n_; clear n_
  clear hcg3_0 hfg3_0
  clear hcg3_1 hfg3_1
  have n_ := Aside0.mk (below_step HB.out hb_); clear HB; have HB := n_; clear n_
  clear hb_
  have hcg1_0 : W4.cell? ⟨g1, 0, none⟩ = some (.int .i64 a) := (blk_cell BKg1.out 0).trans rfl
  have hfg1_0 := blk_frozen BKg1.out 0
  have hcg1_1 : W4.cell? ⟨g1, 1, none⟩ = some (.int .i64 b) := (blk_cell BKg1.out 1).trans rfl
  have hfg1_1 := blk_frozen BKg1.out 1
  have hcg2_0 : W4.cell? ⟨g2, 0, none⟩ = some (.int .i64 c) := (blk_cell BKg2.out 0).trans rfl
  have hfg2_0 := blk_frozen BKg2.out 0
  have hcg2_1 : W4.cell? ⟨g2, 1, none⟩ = some (.int .i64 d) := (blk_cell BKg2.out 1).trans rfl
  have hfg2_1 := blk_frozen BKg2.out 1
  have hcg3_0 : W4.cell? ⟨g3, 0, none⟩ = some (.int .i64 0) := (blk_cell BKg3.out 0).trans rfl
  have hfg3_0 := blk_frozen BKg3.out 0
  have hcg3_1 : W4.cell? ⟨g3, 1, none⟩ = some (.int .i64 0) := (blk_cell BKg3.out 1).trans rfl
  have hfg3_1 := blk_frozen BKg3.out 1
  go_wp2_with fail
  ((with_reducible refine (made_calls _ _ _).mono ?_); rintro e_ W5 ⟨rfl, hb_⟩)
  have n_ := Aside0.mk (blk_below BKg1.out hb_); clear BKg1; have BKg1 := n_; clear n_
  clear hcg1_0 hfg1_0
  clear hcg1_1 hfg1_1
  have n_ := Aside0.mk (blk_below BKg2.out hb_); clear BKg2; have BKg2 := n_; clear n_
  clear hcg2_0 hfg2_0
  clear hcg2_1 hfg2_1
  have n_ := Aside0.mk (blk_below BKg3.out hb_); clear BKg3; have BKg3 := n_; clear n_
  clear hcg3_0 hfg3_0
  clear hcg3_1 hfg3_1
  have n_ := Aside0.mk (below_step HB.out hb_); clear HB; have HB := n_; clear n_
  clear hb_
  have hcg1_0 : W5.cell? ⟨g1, 0, none⟩ = some (.int .i64 a) := (blk_cell BKg1.out 0).trans rfl
  have hfg1_0 := blk_frozen BKg1.out 0
  have hcg1_1 : W5.cell? ⟨g1, 1, none⟩ = some (.int .i64 b) := (blk_cell BKg1.out 1).trans rfl
  have hfg1_1 := blk_frozen BKg1.out 1
  have hcg2_0 : W5.cell? ⟨g2, 0, none⟩ = some (.int .i64 c) := (blk_cell BKg2.out 0).trans rfl
  have hfg2_0 := blk_frozen BKg2.out 0
  have hcg2_1 : W5.cell? ⟨g2, 1, none⟩ = some (.int .i64 d) := (blk_cell BKg2.out 1).trans rfl
  have hfg2_1 := blk_frozen BKg2.out 1
  have hcg3_0 : W5.cell? ⟨g3, 0, none⟩ = some (.int .i64 0) := (blk_cell BKg3.out 0).trans rfl
  have hfg3_0 := blk_frozen BKg3.out 0
  have hcg3_1 : W5.cell? ⟨g3, 1, none⟩ = some (.int .i64 0) := (blk_cell BKg3.out 1).trans rfl
  have hfg3_1 := blk_frozen BKg3.out 1
  go_wp2
  refine bodyPost_ret (results_cell_row rfl _ _ g3 23 #[.int .i64 (sat (a - c)), .int .i64 (sat (b - d))] (0, 0) _ rfl (by (with_reducible repeat (first | refine blk_drewN ?_ _ | refine blk_drew ?_ | refine blk_alloc ?_ _)); refine blk_put (cs := #[.int .i64 (sat (a - c)), .int .i64 0]) ?_ 1 _ rfl; (with_reducible repeat (first | refine blk_drewN ?_ _ | refine blk_drew ?_ | refine blk_alloc ?_ _)); refine blk_put (cs := #[.int .i64 0, .int .i64 0]) ?_ 0 _ rfl; (with_reducible repeat (first | refine blk_drewN ?_ _ | refine blk_drew ?_ | refine blk_alloc ?_ _)); exact BKg3.out) Try.underlying23 rfl (by kernel_rfl)) rfl ?_
  exact ⟨rfl, by repeat (first | (with_reducible first | exact HB.out | apply below_alloc | apply pw_below_drewN | apply below_drew1 | refine below_set ?_ GEg3.out) | exact HB.out)⟩

set_option maxHeartbeats 1000000 in
set_option maxRecDepth 100000 in
theorem vmean_calls (a b c d : Int) (w : World)  :
    Calls Try.prog 13 #[.agg #[.int .i64 a, .int .i64 b], .agg #[.int .i64 c, .int .i64 d]] w
      fun e w' => e = .returned (.agg #[.int .i64 (midI a c), .int .i64 (midI b d)]) ∧ Below w.heap.size w w' := by
  have HB := Aside0.mk (Below.refl w.heap.size w)
  go_enter Try.func13, Try.ntmps13
  go_wp2_with (first | ((with_reducible refine gate_dst (N := 2) rfl ?_); refine box_event ?hg (N := 2) ?hd (cs := #[.int .i64 a, .int .i64 b]) (t := 23) ?hr ?_; (case hd => rfl); (case hg => rfl); (case hr => first | (go_simp; done) | (go_simp; rfl)); intro g1 hg_ W1 hbox_ hb_; have GEg1 := Aside0.mk ((by rw [hg_]; exact (below_size HB.out)) : w.heap.size ≤ g1); clear hg_; have n_ := Aside0.mk (below_step HB.out hb_); clear HB; have HB := n_; clear n_; have BKg1 := Aside0.mk hbox_; clear hbox_ hb_; have hcg1_0 : W1.cell? ⟨g1, 0, none⟩ = some (.int .i64 a) := (blk_cell BKg1.out 0).trans rfl; have hfg1_0 := blk_frozen BKg1.out 0; have hcg1_1 : W1.cell? ⟨g1, 1, none⟩ = some (.int .i64 b) := (blk_cell BKg1.out 1).trans rfl; have hfg1_1 := blk_frozen BKg1.out 1) | ((with_reducible refine gate_dst (N := 3) rfl ?_); refine box_event ?hg (N := 3) ?hd (cs := #[.int .i64 c, .int .i64 d]) (t := 23) ?hr ?_; (case hd => rfl); (case hg => rfl); (case hr => first | (go_simp; done) | (go_simp; rfl)); intro g2 hg_ W2 hbox_ hb_; have GEg2 := Aside0.mk ((by rw [hg_]; exact (below_size HB.out)) : w.heap.size ≤ g2); have NBg1_g2 : g1 ≠ g2 := (by rw [hg_]; exact Nat.ne_of_lt (blk_lt BKg1.out)); have NBg2_g1 : g2 ≠ g1 := Ne.symm NBg1_g2; clear hg_; have n_ := Aside0.mk (blk_below BKg1.out hb_); clear BKg1; have BKg1 := n_; clear n_; clear hcg1_0 hfg1_0; clear hcg1_1 hfg1_1; have n_ := Aside0.mk (below_step HB.out hb_); clear HB; have HB := n_; clear n_; have BKg2 := Aside0.mk hbox_; clear hbox_ hb_; have hcg1_0 : W2.cell? ⟨g1, 0, none⟩ = some (.int .i64 a) := (blk_cell BKg1.out 0).trans rfl; have hfg1_0 := blk_frozen BKg1.out 0; have hcg1_1 : W2.cell? ⟨g1, 1, none⟩ = some (.int .i64 b) := (blk_cell BKg1.out 1).trans rfl; have hfg1_1 := blk_frozen BKg1.out 1; have hcg2_0 : W2.cell? ⟨g2, 0, none⟩ = some (.int .i64 c) := (blk_cell BKg2.out 0).trans rfl; have hfg2_0 := blk_frozen BKg2.out 0; have hcg2_1 : W2.cell? ⟨g2, 1, none⟩ = some (.int .i64 d) := (blk_cell BKg2.out 1).trans rfl; have hfg2_1 := blk_frozen BKg2.out 1) | ((with_reducible refine gate_dst (N := 4) rfl ?_); refine box_event ?hg (N := 4) ?hd (cs := #[.int .i64 0, .int .i64 0]) (t := 23) ?hr ?_; (case hd => rfl); (case hg => rfl); (case hr => first | (go_simp; done) | (go_simp; rfl)); intro g3 hg_ W3 hbox_ hb_; have GEg3 := Aside0.mk ((by rw [hg_]; exact (below_size HB.out)) : w.heap.size ≤ g3); have NBg1_g3 : g1 ≠ g3 := (by rw [hg_]; exact Nat.ne_of_lt (blk_lt BKg1.out)); have NBg3_g1 : g3 ≠ g1 := Ne.symm NBg1_g3; have NBg2_g3 : g2 ≠ g3 := (by rw [hg_]; exact Nat.ne_of_lt (blk_lt BKg2.out)); have NBg3_g2 : g3 ≠ g2 := Ne.symm NBg2_g3; clear hg_; have n_ := Aside0.mk (blk_below BKg1.out hb_); clear BKg1; have BKg1 := n_; clear n_; clear hcg1_0 hfg1_0; clear hcg1_1 hfg1_1; have n_ := Aside0.mk (blk_below BKg2.out hb_); clear BKg2; have BKg2 := n_; clear n_; clear hcg2_0 hfg2_0; clear hcg2_1 hfg2_1; have n_ := Aside0.mk (below_step HB.out hb_); clear HB; have HB := n_; clear n_; have BKg3 := Aside0.mk hbox_; clear hbox_ hb_; have hcg1_0 : W3.cell? ⟨g1, 0, none⟩ = some (.int .i64 a) := (blk_cell BKg1.out 0).trans rfl; have hfg1_0 := blk_frozen BKg1.out 0; have hcg1_1 : W3.cell? ⟨g1, 1, none⟩ = some (.int .i64 b) := (blk_cell BKg1.out 1).trans rfl; have hfg1_1 := blk_frozen BKg1.out 1; have hcg2_0 : W3.cell? ⟨g2, 0, none⟩ = some (.int .i64 c) := (blk_cell BKg2.out 0).trans rfl; have hfg2_0 := blk_frozen BKg2.out 0; have hcg2_1 : W3.cell? ⟨g2, 1, none⟩ = some (.int .i64 d) := (blk_cell BKg2.out 1).trans rfl; have hfg2_1 := blk_frozen BKg2.out 1; have hcg3_0 : W3.cell? ⟨g3, 0, none⟩ = some (.int .i64 0) := (blk_cell BKg3.out 0).trans rfl; have hfg3_0 := blk_frozen BKg3.out 0; have hcg3_1 : W3.cell? ⟨g3, 1, none⟩ = some (.int .i64 0) := (blk_cell BKg3.out 1).trans rfl; have hfg3_1 := blk_frozen BKg3.out 1))
  ((with_reducible refine (both_mean _ _ _ _ _).mono ?_); rintro e_ W4 ⟨rfl, hb_⟩)
  have n_ := Aside0.mk (blk_below BKg1.out hb_); clear BKg1; have BKg1 := n_; clear n_
  clear hcg1_0 hfg1_0
  clear hcg1_1 hfg1_1
  have n_ := Aside0.mk (blk_below BKg2.out hb_); clear BKg2; have BKg2 := n_; clear n_
  clear hcg2_0 hfg2_0
  clear hcg2_1 hfg2_1
  have n_ := Aside0.mk (blk_below BKg3.out hb_); clear BKg3; have BKg3 := n_; clear n_
  clear hcg3_0 hfg3_0
  clear hcg3_1 hfg3_1
  have n_ := Aside0.mk (below_step HB.out hb_); clear HB; have HB := n_; clear n_
  clear hb_
  have hcg1_0 : W4.cell? ⟨g1, 0, none⟩ = some (.int .i64 a) := (blk_cell BKg1.out 0).trans rfl
  have hfg1_0 := blk_frozen BKg1.out 0
  have hcg1_1 : W4.cell? ⟨g1, 1, none⟩ = some (.int .i64 b) := (blk_cell BKg1.out 1).trans rfl
  have hfg1_1 := blk_frozen BKg1.out 1
  have hcg2_0 : W4.cell? ⟨g2, 0, none⟩ = some (.int .i64 c) := (blk_cell BKg2.out 0).trans rfl
  have hfg2_0 := blk_frozen BKg2.out 0
  have hcg2_1 : W4.cell? ⟨g2, 1, none⟩ = some (.int .i64 d) := (blk_cell BKg2.out 1).trans rfl
  have hfg2_1 := blk_frozen BKg2.out 1
  have hcg3_0 : W4.cell? ⟨g3, 0, none⟩ = some (.int .i64 0) := (blk_cell BKg3.out 0).trans rfl
  have hfg3_0 := blk_frozen BKg3.out 0
  have hcg3_1 : W4.cell? ⟨g3, 1, none⟩ = some (.int .i64 0) := (blk_cell BKg3.out 1).trans rfl
  have hfg3_1 := blk_frozen BKg3.out 1
  go_wp2_with fail
  ((with_reducible refine (made_calls _ _ _).mono ?_); rintro e_ W5 ⟨rfl, hb_⟩)
  have n_ := Aside0.mk (blk_below BKg1.out hb_); clear BKg1; have BKg1 := n_; clear n_
  clear hcg1_0 hfg1_0
  clear hcg1_1 hfg1_1
  have n_ := Aside0.mk (blk_below BKg2.out hb_); clear BKg2; have BKg2 := n_; clear n_
  clear hcg2_0 hfg2_0
  clear hcg2_1 hfg2_1
  have n_ := Aside0.mk (blk_below BKg3.out hb_); clear BKg3; have BKg3 := n_; clear n_
  clear hcg3_0 hfg3_0
  clear hcg3_1 hfg3_1
  have n_ := Aside0.mk (below_step HB.out hb_); clear HB; have HB := n_; clear n_
  clear hb_
  have hcg1_0 : W5.cell? ⟨g1, 0, none⟩ = some (.int .i64 a) := (blk_cell BKg1.out 0).trans rfl
  have hfg1_0 := blk_frozen BKg1.out 0
  have hcg1_1 : W5.cell? ⟨g1, 1, none⟩ = some (.int .i64 b) := (blk_cell BKg1.out 1).trans rfl
  have hfg1_1 := blk_frozen BKg1.out 1
  have hcg2_0 : W5.cell? ⟨g2, 0, none⟩ = some (.int .i64 c) := (blk_cell BKg2.out 0).trans rfl
  have hfg2_0 := blk_frozen BKg2.out 0
  have hcg2_1 : W5.cell? ⟨g2, 1, none⟩ = some (.int .i64 d) := (blk_cell BKg2.out 1).trans rfl
  have hfg2_1 := blk_frozen BKg2.out 1
  have hcg3_0 : W5.cell? ⟨g3, 0, none⟩ = some (.int .i64 0) := (blk_cell BKg3.out 0).trans rfl
  have hfg3_0 := blk_frozen BKg3.out 0
  have hcg3_1 : W5.cell? ⟨g3, 1, none⟩ = some (.int .i64 0) := (blk_cell BKg3.out 1).trans rfl
  have hfg3_1 := blk_frozen BKg3.out 1
  go_wp2
  refine bodyPost_ret (results_cell_row rfl _ _ g3 23 #[.int .i64 (midI a c), .int .i64 (midI b d)] (0, 0) _ rfl (by (with_reducible repeat (first | refine blk_drewN ?_ _ | refine blk_drew ?_ | refine blk_alloc ?_ _)); refine blk_put (cs := #[.int .i64 (midI a c), .int .i64 0]) ?_ 1 _ rfl; (with_reducible repeat (first | refine blk_drewN ?_ _ | refine blk_drew ?_ | refine blk_alloc ?_ _)); refine blk_put (cs := #[.int .i64 0, .int .i64 0]) ?_ 0 _ rfl; (with_reducible repeat (first | refine blk_drewN ?_ _ | refine blk_drew ?_ | refine blk_alloc ?_ _)); exact BKg3.out) Try.underlying23 rfl (by kernel_rfl)) rfl ?_
  exact ⟨rfl, by repeat (first | (with_reducible first | exact HB.out | apply below_alloc | apply pw_below_drewN | apply below_drew1 | refine below_set ?_ GEg3.out) | exact HB.out)⟩

set_option maxHeartbeats 1000000 in
set_option maxRecDepth 100000 in
theorem vdot_calls (a b c d : Int) (w : World) (ha : I64 a) (hb : I64 b) (hc : I64 c) (hd : I64 d) :
    Calls Try.prog 15 #[.agg #[.int .i64 a, .int .i64 b], .agg #[.int .i64 c, .int .i64 d]] w
      fun e w' => e = .returned (.int .i64 (sat (fmul a c + fmul b d))) ∧ Below w.heap.size w w' := by
  have HB := Aside0.mk (Below.refl w.heap.size w)
  go_enter Try.func15, Try.ntmps15
  go_wp2_with (first | ((with_reducible refine gate_dst (N := 2) rfl ?_); refine box_event ?hg (N := 2) ?hd (cs := #[.int .i64 a, .int .i64 b]) (t := 23) ?hr ?_; (case hd => rfl); (case hg => rfl); (case hr => first | (go_simp; done) | (go_simp; rfl)); intro g1 hg_ W1 hbox_ hb_; have GEg1 := Aside0.mk ((by rw [hg_]; exact (below_size HB.out)) : w.heap.size ≤ g1); clear hg_; have n_ := Aside0.mk (below_step HB.out hb_); clear HB; have HB := n_; clear n_; have BKg1 := Aside0.mk hbox_; clear hbox_ hb_; have hcg1_0 : W1.cell? ⟨g1, 0, none⟩ = some (.int .i64 a) := (blk_cell BKg1.out 0).trans rfl; have hfg1_0 := blk_frozen BKg1.out 0; have hcg1_1 : W1.cell? ⟨g1, 1, none⟩ = some (.int .i64 b) := (blk_cell BKg1.out 1).trans rfl; have hfg1_1 := blk_frozen BKg1.out 1) | ((with_reducible refine gate_dst (N := 3) rfl ?_); refine box_event ?hg (N := 3) ?hd (cs := #[.int .i64 c, .int .i64 d]) (t := 23) ?hr ?_; (case hd => rfl); (case hg => rfl); (case hr => first | (go_simp; done) | (go_simp; rfl)); intro g2 hg_ W2 hbox_ hb_; have GEg2 := Aside0.mk ((by rw [hg_]; exact (below_size HB.out)) : w.heap.size ≤ g2); have NBg1_g2 : g1 ≠ g2 := (by rw [hg_]; exact Nat.ne_of_lt (blk_lt BKg1.out)); have NBg2_g1 : g2 ≠ g1 := Ne.symm NBg1_g2; clear hg_; have n_ := Aside0.mk (blk_below BKg1.out hb_); clear BKg1; have BKg1 := n_; clear n_; clear hcg1_0 hfg1_0; clear hcg1_1 hfg1_1; have n_ := Aside0.mk (below_step HB.out hb_); clear HB; have HB := n_; clear n_; have BKg2 := Aside0.mk hbox_; clear hbox_ hb_; have hcg1_0 : W2.cell? ⟨g1, 0, none⟩ = some (.int .i64 a) := (blk_cell BKg1.out 0).trans rfl; have hfg1_0 := blk_frozen BKg1.out 0; have hcg1_1 : W2.cell? ⟨g1, 1, none⟩ = some (.int .i64 b) := (blk_cell BKg1.out 1).trans rfl; have hfg1_1 := blk_frozen BKg1.out 1; have hcg2_0 : W2.cell? ⟨g2, 0, none⟩ = some (.int .i64 c) := (blk_cell BKg2.out 0).trans rfl; have hfg2_0 := blk_frozen BKg2.out 0; have hcg2_1 : W2.cell? ⟨g2, 1, none⟩ = some (.int .i64 d) := (blk_cell BKg2.out 1).trans rfl; have hfg2_1 := blk_frozen BKg2.out 1))
  ((with_reducible refine (both_mul _ _ _ _ _ ha hb hc hd).mono ?_); rintro e_ W3 ⟨rfl, hb_⟩)
  have n_ := Aside0.mk (blk_below BKg1.out hb_); clear BKg1; have BKg1 := n_; clear n_
  clear hcg1_0 hfg1_0
  clear hcg1_1 hfg1_1
  have n_ := Aside0.mk (blk_below BKg2.out hb_); clear BKg2; have BKg2 := n_; clear n_
  clear hcg2_0 hfg2_0
  clear hcg2_1 hfg2_1
  have n_ := Aside0.mk (below_step HB.out hb_); clear HB; have HB := n_; clear n_
  clear hb_
  have hcg1_0 : W3.cell? ⟨g1, 0, none⟩ = some (.int .i64 a) := (blk_cell BKg1.out 0).trans rfl
  have hfg1_0 := blk_frozen BKg1.out 0
  have hcg1_1 : W3.cell? ⟨g1, 1, none⟩ = some (.int .i64 b) := (blk_cell BKg1.out 1).trans rfl
  have hfg1_1 := blk_frozen BKg1.out 1
  have hcg2_0 : W3.cell? ⟨g2, 0, none⟩ = some (.int .i64 c) := (blk_cell BKg2.out 0).trans rfl
  have hfg2_0 := blk_frozen BKg2.out 0
  have hcg2_1 : W3.cell? ⟨g2, 1, none⟩ = some (.int .i64 d) := (blk_cell BKg2.out 1).trans rfl
  have hfg2_1 := blk_frozen BKg2.out 1
  go_wp2_with fail
  ((with_reducible refine (add_calls _ _ _ (fmul_I64 _ _) (fmul_I64 _ _)).mono ?_); rintro e_ w_ ⟨rfl, ⟨nd_, rfl⟩⟩)
  have n_ := Aside0.mk (blk_drewN BKg1.out nd_); clear BKg1; have BKg1 := n_; clear n_
  clear hcg1_0 hfg1_0
  clear hcg1_1 hfg1_1
  have n_ := Aside0.mk (blk_drewN BKg2.out nd_); clear BKg2; have BKg2 := n_; clear n_
  clear hcg2_0 hfg2_0
  clear hcg2_1 hfg2_1
  have n_ := Aside0.mk (pw_below_drewN HB.out nd_); clear HB; have HB := n_; clear n_
  generalize W3.drewN nd_ = W4 at *
  have hcg1_0 : W4.cell? ⟨g1, 0, none⟩ = some (.int .i64 a) := (blk_cell BKg1.out 0).trans rfl
  have hfg1_0 := blk_frozen BKg1.out 0
  have hcg1_1 : W4.cell? ⟨g1, 1, none⟩ = some (.int .i64 b) := (blk_cell BKg1.out 1).trans rfl
  have hfg1_1 := blk_frozen BKg1.out 1
  have hcg2_0 : W4.cell? ⟨g2, 0, none⟩ = some (.int .i64 c) := (blk_cell BKg2.out 0).trans rfl
  have hfg2_0 := blk_frozen BKg2.out 0
  have hcg2_1 : W4.cell? ⟨g2, 1, none⟩ = some (.int .i64 d) := (blk_cell BKg2.out 1).trans rfl
  have hfg2_1 := blk_frozen BKg2.out 1
  go_wp2
  go_ret
  exact ⟨rfl, (by repeat (first | (with_reducible first | exact HB.out | apply below_alloc | apply pw_below_drewN | apply below_drew1) | exact HB.out))⟩

def nearB (a b c d r : Int) : Bool := decide (0 ≤ r) && (decide (distI a c ≤ r) && decide (distI b d ≤ r))

set_option maxHeartbeats 1000000 in
set_option maxRecDepth 100000 in
theorem vnear_calls (a b c d r : Int) (w : World) (ha : I64 a) (hb : I64 b) (hc : I64 c) (hd : I64 d) (hr : I64 r) :
    Calls Try.prog 12 #[.agg #[.int .i64 a, .int .i64 b], .agg #[.int .i64 c, .int .i64 d], .int .i64 r] w
      fun e w' => e = .returned (.bool (nearB a b c d r)) ∧ Below w.heap.size w w' := by
  have HB := Aside0.mk (Below.refl w.heap.size w)
  have R := Lib.hid hr
  obtain ⟨r1, r2⟩ := hr
  by_cases h0 : 0 ≤ r
  ·
    go_enter Try.func12, Try.ntmps12
    go_wp2_with (first | ((with_reducible refine gate_dst (N := 3) rfl ?_); refine box_event ?hg (N := 3) ?hd (cs := #[.int .i64 a, .int .i64 b]) (t := 23) ?hr ?_; (case hd => rfl); (case hg => rfl); (case hr => first | (go_simp; done) | (go_simp; rfl)); intro g1 hg_ W1 hbox_ hb_; have GEg1 := Aside0.mk ((by rw [hg_]; exact (below_size HB.out)) : w.heap.size ≤ g1); clear hg_; have n_ := Aside0.mk (below_step HB.out hb_); clear HB; have HB := n_; clear n_; have BKg1 := Aside0.mk hbox_; clear hbox_ hb_; have hcg1_0 : W1.cell? ⟨g1, 0, none⟩ = some (.int .i64 a) := (blk_cell BKg1.out 0).trans rfl; have hfg1_0 := blk_frozen BKg1.out 0; have hcg1_1 : W1.cell? ⟨g1, 1, none⟩ = some (.int .i64 b) := (blk_cell BKg1.out 1).trans rfl; have hfg1_1 := blk_frozen BKg1.out 1) | ((with_reducible refine gate_dst (N := 4) rfl ?_); refine box_event ?hg (N := 4) ?hd (cs := #[.int .i64 c, .int .i64 d]) (t := 23) ?hr ?_; (case hd => rfl); (case hg => rfl); (case hr => first | (go_simp; done) | (go_simp; rfl)); intro g2 hg_ W2 hbox_ hb_; have GEg2 := Aside0.mk ((by rw [hg_]; exact (below_size HB.out)) : w.heap.size ≤ g2); have NBg1_g2 : g1 ≠ g2 := (by rw [hg_]; exact Nat.ne_of_lt (blk_lt BKg1.out)); have NBg2_g1 : g2 ≠ g1 := Ne.symm NBg1_g2; clear hg_; have n_ := Aside0.mk (blk_below BKg1.out hb_); clear BKg1; have BKg1 := n_; clear n_; clear hcg1_0 hfg1_0; clear hcg1_1 hfg1_1; have n_ := Aside0.mk (below_step HB.out hb_); clear HB; have HB := n_; clear n_; have BKg2 := Aside0.mk hbox_; clear hbox_ hb_; have hcg1_0 : W2.cell? ⟨g1, 0, none⟩ = some (.int .i64 a) := (blk_cell BKg1.out 0).trans rfl; have hfg1_0 := blk_frozen BKg1.out 0; have hcg1_1 : W2.cell? ⟨g1, 1, none⟩ = some (.int .i64 b) := (blk_cell BKg1.out 1).trans rfl; have hfg1_1 := blk_frozen BKg1.out 1; have hcg2_0 : W2.cell? ⟨g2, 0, none⟩ = some (.int .i64 c) := (blk_cell BKg2.out 0).trans rfl; have hfg2_0 := blk_frozen BKg2.out 0; have hcg2_1 : W2.cell? ⟨g2, 1, none⟩ = some (.int .i64 d) := (blk_cell BKg2.out 1).trans rfl; have hfg2_1 := blk_frozen BKg2.out 1))
    ((with_reducible refine (both_near _ _ _ _ _ ha hb hc hd).mono ?_); rintro e_ W3 ⟨rfl, hb_⟩)
    have n_ := Aside0.mk (blk_below BKg1.out hb_); clear BKg1; have BKg1 := n_; clear n_
    clear hcg1_0 hfg1_0
    clear hcg1_1 hfg1_1
    have n_ := Aside0.mk (blk_below BKg2.out hb_); clear BKg2; have BKg2 := n_; clear n_
    clear hcg2_0 hfg2_0
    clear hcg2_1 hfg2_1
    have n_ := Aside0.mk (below_step HB.out hb_); clear HB; have HB := n_; clear n_
    clear hb_
    have hcg1_0 : W3.cell? ⟨g1, 0, none⟩ = some (.int .i64 a) := (blk_cell BKg1.out 0).trans rfl
    have hfg1_0 := blk_frozen BKg1.out 0
    have hcg1_1 : W3.cell? ⟨g1, 1, none⟩ = some (.int .i64 b) := (blk_cell BKg1.out 1).trans rfl
    have hfg1_1 := blk_frozen BKg1.out 1
    have hcg2_0 : W3.cell? ⟨g2, 0, none⟩ = some (.int .i64 c) := (blk_cell BKg2.out 0).trans rfl
    have hfg2_0 := blk_frozen BKg2.out 0
    have hcg2_1 : W3.cell? ⟨g2, 1, none⟩ = some (.int .i64 d) := (blk_cell BKg2.out 1).trans rfl
    have hfg2_1 := blk_frozen BKg2.out 1
    go_wp2
    all_goals (go_ret; exact ⟨ret_bool (by unfold nearB; first | (simp [*]; done) | (simp; omega)), (by repeat (first | (with_reducible first | exact HB.out | apply below_alloc | apply pw_below_drewN | apply below_drew1) | exact HB.out))⟩)
  ·
    go_enter Try.func12, Try.ntmps12
    go_wp2_with (first | ((with_reducible refine gate_dst (N := 3) rfl ?_); refine box_event ?hg (N := 3) ?hd (cs := #[.int .i64 a, .int .i64 b]) (t := 23) ?hr ?_; (case hd => rfl); (case hg => rfl); (case hr => first | (go_simp; done) | (go_simp; rfl)); intro g1 hg_ W1 hbox_ hb_; have GEg1 := Aside0.mk ((by rw [hg_]; exact (below_size HB.out)) : w.heap.size ≤ g1); clear hg_; have n_ := Aside0.mk (below_step HB.out hb_); clear HB; have HB := n_; clear n_; have BKg1 := Aside0.mk hbox_; clear hbox_ hb_; have hcg1_0 : W1.cell? ⟨g1, 0, none⟩ = some (.int .i64 a) := (blk_cell BKg1.out 0).trans rfl; have hfg1_0 := blk_frozen BKg1.out 0; have hcg1_1 : W1.cell? ⟨g1, 1, none⟩ = some (.int .i64 b) := (blk_cell BKg1.out 1).trans rfl; have hfg1_1 := blk_frozen BKg1.out 1) | ((with_reducible refine gate_dst (N := 4) rfl ?_); refine box_event ?hg (N := 4) ?hd (cs := #[.int .i64 c, .int .i64 d]) (t := 23) ?hr ?_; (case hd => rfl); (case hg => rfl); (case hr => first | (go_simp; done) | (go_simp; rfl)); intro g2 hg_ W2 hbox_ hb_; have GEg2 := Aside0.mk ((by rw [hg_]; exact (below_size HB.out)) : w.heap.size ≤ g2); have NBg1_g2 : g1 ≠ g2 := (by rw [hg_]; exact Nat.ne_of_lt (blk_lt BKg1.out)); have NBg2_g1 : g2 ≠ g1 := Ne.symm NBg1_g2; clear hg_; have n_ := Aside0.mk (blk_below BKg1.out hb_); clear BKg1; have BKg1 := n_; clear n_; clear hcg1_0 hfg1_0; clear hcg1_1 hfg1_1; have n_ := Aside0.mk (below_step HB.out hb_); clear HB; have HB := n_; clear n_; have BKg2 := Aside0.mk hbox_; clear hbox_ hb_; have hcg1_0 : W2.cell? ⟨g1, 0, none⟩ = some (.int .i64 a) := (blk_cell BKg1.out 0).trans rfl; have hfg1_0 := blk_frozen BKg1.out 0; have hcg1_1 : W2.cell? ⟨g1, 1, none⟩ = some (.int .i64 b) := (blk_cell BKg1.out 1).trans rfl; have hfg1_1 := blk_frozen BKg1.out 1; have hcg2_0 : W2.cell? ⟨g2, 0, none⟩ = some (.int .i64 c) := (blk_cell BKg2.out 0).trans rfl; have hfg2_0 := blk_frozen BKg2.out 0; have hcg2_1 : W2.cell? ⟨g2, 1, none⟩ = some (.int .i64 d) := (blk_cell BKg2.out 1).trans rfl; have hfg2_1 := blk_frozen BKg2.out 1))
    ((with_reducible refine (both_near _ _ _ _ _ ha hb hc hd).mono ?_); rintro e_ W3 ⟨rfl, hb_⟩)
    have n_ := Aside0.mk (blk_below BKg1.out hb_); clear BKg1; have BKg1 := n_; clear n_
    clear hcg1_0 hfg1_0
    clear hcg1_1 hfg1_1
    have n_ := Aside0.mk (blk_below BKg2.out hb_); clear BKg2; have BKg2 := n_; clear n_
    clear hcg2_0 hfg2_0
    clear hcg2_1 hfg2_1
    have n_ := Aside0.mk (below_step HB.out hb_); clear HB; have HB := n_; clear n_
    clear hb_
    have hcg1_0 : W3.cell? ⟨g1, 0, none⟩ = some (.int .i64 a) := (blk_cell BKg1.out 0).trans rfl
    have hfg1_0 := blk_frozen BKg1.out 0
    have hcg1_1 : W3.cell? ⟨g1, 1, none⟩ = some (.int .i64 b) := (blk_cell BKg1.out 1).trans rfl
    have hfg1_1 := blk_frozen BKg1.out 1
    have hcg2_0 : W3.cell? ⟨g2, 0, none⟩ = some (.int .i64 c) := (blk_cell BKg2.out 0).trans rfl
    have hfg2_0 := blk_frozen BKg2.out 0
    have hcg2_1 : W3.cell? ⟨g2, 1, none⟩ = some (.int .i64 d) := (blk_cell BKg2.out 1).trans rfl
    have hfg2_1 := blk_frozen BKg2.out 1
    go_wp2
    all_goals (go_ret; exact ⟨ret_bool (by unfold nearB; first | (simp [*]; done) | (simp; omega)), (by repeat (first | (with_reducible first | exact HB.out | apply below_alloc | apply pw_below_drewN | apply below_drew1) | exact HB.out))⟩)

set_option maxHeartbeats 1000000 in
set_option maxRecDepth 100000 in
theorem vclamp_no (a b m : Int) (w : World) (h0 : m < 0) :
    Calls Try.prog 14 #[.agg #[.int .i64 a, .int .i64 b], .int .i64 m] w
      fun e w' => e = .returned (.tuple #[.agg #[.int .i64 0, .int .i64 0], .int .i64 1]) ∧ Below w.heap.size w w' := by
  have HB := Aside0.mk (Below.refl w.heap.size w)
  have c0 : decide (m < 0) = true := decide_eq_true h0
  clear h0
  go_enter Try.func14, Try.ntmps14
  go_wp2_with (first | ((with_reducible refine gate_dst (N := 2) rfl ?_); refine box_event ?hg (N := 2) ?hd (cs := #[.int .i64 a, .int .i64 b]) (t := 23) ?hr ?_; (case hd => rfl); (case hg => rfl); (case hr => first | (go_simp; done) | (go_simp; rfl)); intro g1 hg_ W1 hbox_ hb_; have GEg1 := Aside0.mk ((by rw [hg_]; exact (below_size HB.out)) : w.heap.size ≤ g1); clear hg_; have n_ := Aside0.mk (below_step HB.out hb_); clear HB; have HB := n_; clear n_; have BKg1 := Aside0.mk hbox_; clear hbox_ hb_; have hcg1_0 : W1.cell? ⟨g1, 0, none⟩ = some (.int .i64 a) := (blk_cell BKg1.out 0).trans rfl; have hfg1_0 := blk_frozen BKg1.out 0; have hcg1_1 : W1.cell? ⟨g1, 1, none⟩ = some (.int .i64 b) := (blk_cell BKg1.out 1).trans rfl; have hfg1_1 := blk_frozen BKg1.out 1) | ((with_reducible refine gate_dst (N := 3) rfl ?_); refine box_event ?hg (N := 3) ?hd (cs := #[.int .i64 m]) (t := 3) ?hr ?_; (case hd => rfl); (case hg => rfl); (case hr => first | (go_simp; done) | (go_simp; rfl)); intro g2 hg_ W2 hbox_ hb_; have GEg2 := Aside0.mk ((by rw [hg_]; exact (below_size HB.out)) : w.heap.size ≤ g2); have NBg1_g2 : g1 ≠ g2 := (by rw [hg_]; exact Nat.ne_of_lt (blk_lt BKg1.out)); have NBg2_g1 : g2 ≠ g1 := Ne.symm NBg1_g2; clear hg_; have n_ := Aside0.mk (blk_below BKg1.out hb_); clear BKg1; have BKg1 := n_; clear n_; clear hcg1_0 hfg1_0; clear hcg1_1 hfg1_1; have n_ := Aside0.mk (below_step HB.out hb_); clear HB; have HB := n_; clear n_; have BKg2 := Aside0.mk hbox_; clear hbox_ hb_; have hcg1_0 : W2.cell? ⟨g1, 0, none⟩ = some (.int .i64 a) := (blk_cell BKg1.out 0).trans rfl; have hfg1_0 := blk_frozen BKg1.out 0; have hcg1_1 : W2.cell? ⟨g1, 1, none⟩ = some (.int .i64 b) := (blk_cell BKg1.out 1).trans rfl; have hfg1_1 := blk_frozen BKg1.out 1; have hcg2_0 : W2.cell? ⟨g2, 0, none⟩ = some (.int .i64 m) := (blk_cell BKg2.out 0).trans rfl; have hfg2_0 := blk_frozen BKg2.out 0) | ((with_reducible refine gate_dst (N := 4) rfl ?_); refine box_event ?hg (N := 4) ?hd (cs := #[.int .i64 0, .int .i64 0]) (t := 23) ?hr ?_; (case hd => rfl); (case hg => rfl); (case hr => first | (go_simp; done) | (go_simp; rfl)); intro g3 hg_ W3 hbox_ hb_; have GEg3 := Aside0.mk ((by rw [hg_]; exact (below_size HB.out)) : w.heap.size ≤ g3); have NBg1_g3 : g1 ≠ g3 := (by rw [hg_]; exact Nat.ne_of_lt (blk_lt BKg1.out)); have NBg3_g1 : g3 ≠ g1 := Ne.symm NBg1_g3; have NBg2_g3 : g2 ≠ g3 := (by rw [hg_]; exact Nat.ne_of_lt (blk_lt BKg2.out)); have NBg3_g2 : g3 ≠ g2 := Ne.symm NBg2_g3; clear hg_; have n_ := Aside0.mk (blk_below BKg1.out hb_); clear BKg1; have BKg1 := n_; clear n_; clear hcg1_0 hfg1_0; clear hcg1_1 hfg1_1; have n_ := Aside0.mk (blk_below BKg2.out hb_); clear BKg2; have BKg2 := n_; clear n_; clear hcg2_0 hfg2_0; have n_ := Aside0.mk (below_step HB.out hb_); clear HB; have HB := n_; clear n_; have BKg3 := Aside0.mk hbox_; clear hbox_ hb_; have hcg1_0 : W3.cell? ⟨g1, 0, none⟩ = some (.int .i64 a) := (blk_cell BKg1.out 0).trans rfl; have hfg1_0 := blk_frozen BKg1.out 0; have hcg1_1 : W3.cell? ⟨g1, 1, none⟩ = some (.int .i64 b) := (blk_cell BKg1.out 1).trans rfl; have hfg1_1 := blk_frozen BKg1.out 1; have hcg2_0 : W3.cell? ⟨g2, 0, none⟩ = some (.int .i64 m) := (blk_cell BKg2.out 0).trans rfl; have hfg2_0 := blk_frozen BKg2.out 0; have hcg3_0 : W3.cell? ⟨g3, 0, none⟩ = some (.int .i64 0) := (blk_cell BKg3.out 0).trans rfl; have hfg3_0 := blk_frozen BKg3.out 0; have hcg3_1 : W3.cell? ⟨g3, 1, none⟩ = some (.int .i64 0) := (blk_cell BKg3.out 1).trans rfl; have hfg3_1 := blk_frozen BKg3.out 1))
  refine bodyPost_ret (results_ct rfl _ _ g3 23 #[.int .i64 0, .int .i64 0] (0, 0) _ rfl (by (with_reducible repeat (first | refine blk_drewN ?_ _ | refine blk_drew ?_ | refine blk_alloc ?_ _)); refine blk_put (cs := #[.int .i64 0, .int .i64 0]) ?_ 1 _ rfl; (with_reducible repeat (first | refine blk_drewN ?_ _ | refine blk_drew ?_ | refine blk_alloc ?_ _)); refine blk_put (cs := #[.int .i64 0, .int .i64 0]) ?_ 0 _ rfl; (with_reducible repeat (first | refine blk_drewN ?_ _ | refine blk_drew ?_ | refine blk_alloc ?_ _)); exact BKg3.out) Try.underlying23 rfl (by kernel_rfl)) rfl ?_
  exact ⟨rfl, by repeat (first | (with_reducible first | exact HB.out | apply below_alloc | apply pw_below_drewN | apply below_drew1 | refine below_set ?_ GEg3.out) | exact HB.out)⟩

set_option maxHeartbeats 1000000 in
set_option maxRecDepth 100000 in
theorem vclamp_yes (a b m : Int) (w : World) (h0 : 0 ≤ m) (h1 : m ≤ 9223372036854775807) :
    Calls Try.prog 14 #[.agg #[.int .i64 a, .int .i64 b], .int .i64 m] w
      fun e w' => e = .returned (.tuple #[.agg #[.int .i64 (clampI a m), .int .i64 (clampI b m)], .int .i64 0]) ∧ Below w.heap.size w w' := by
  have HB := Aside0.mk (Below.refl w.heap.size w)
  have c0 : decide (m < 0) = false := decide_eq_false (by omega)
  go_enter Try.func14, Try.ntmps14
  go_wp2_with (first | ((with_reducible refine gate_dst (N := 2) rfl ?_); refine box_event ?hg (N := 2) ?hd (cs := #[.int .i64 a, .int .i64 b]) (t := 23) ?hr ?_; (case hd => rfl); (case hg => rfl); (case hr => first | (go_simp; done) | (go_simp; rfl)); intro g1 hg_ W1 hbox_ hb_; have GEg1 := Aside0.mk ((by rw [hg_]; exact (below_size HB.out)) : w.heap.size ≤ g1); clear hg_; have n_ := Aside0.mk (below_step HB.out hb_); clear HB; have HB := n_; clear n_; have BKg1 := Aside0.mk hbox_; clear hbox_ hb_; have hcg1_0 : W1.cell? ⟨g1, 0, none⟩ = some (.int .i64 a) := (blk_cell BKg1.out 0).trans rfl; have hfg1_0 := blk_frozen BKg1.out 0; have hcg1_1 : W1.cell? ⟨g1, 1, none⟩ = some (.int .i64 b) := (blk_cell BKg1.out 1).trans rfl; have hfg1_1 := blk_frozen BKg1.out 1) | ((with_reducible refine gate_dst (N := 3) rfl ?_); refine box_event ?hg (N := 3) ?hd (cs := #[.int .i64 m]) (t := 3) ?hr ?_; (case hd => rfl); (case hg => rfl); (case hr => first | (go_simp; done) | (go_simp; rfl)); intro g2 hg_ W2 hbox_ hb_; have GEg2 := Aside0.mk ((by rw [hg_]; exact (below_size HB.out)) : w.heap.size ≤ g2); have NBg1_g2 : g1 ≠ g2 := (by rw [hg_]; exact Nat.ne_of_lt (blk_lt BKg1.out)); have NBg2_g1 : g2 ≠ g1 := Ne.symm NBg1_g2; clear hg_; have n_ := Aside0.mk (blk_below BKg1.out hb_); clear BKg1; have BKg1 := n_; clear n_; clear hcg1_0 hfg1_0; clear hcg1_1 hfg1_1; have n_ := Aside0.mk (below_step HB.out hb_); clear HB; have HB := n_; clear n_; have BKg2 := Aside0.mk hbox_; clear hbox_ hb_; have hcg1_0 : W2.cell? ⟨g1, 0, none⟩ = some (.int .i64 a) := (blk_cell BKg1.out 0).trans rfl; have hfg1_0 := blk_frozen BKg1.out 0; have hcg1_1 : W2.cell? ⟨g1, 1, none⟩ = some (.int .i64 b) := (blk_cell BKg1.out 1).trans rfl; have hfg1_1 := blk_frozen BKg1.out 1; have hcg2_0 : W2.cell? ⟨g2, 0, none⟩ = some (.int .i64 m) := (blk_cell BKg2.out 0).trans rfl; have hfg2_0 := blk_frozen BKg2.out 0) | ((with_reducible refine gate_dst (N := 4) rfl ?_); refine box_event ?hg (N := 4) ?hd (cs := #[.int .i64 0, .int .i64 0]) (t := 23) ?hr ?_; (case hd => rfl); (case hg => rfl); (case hr => first | (go_simp; done) | (go_simp; rfl)); intro g3 hg_ W3 hbox_ hb_; have GEg3 := Aside0.mk ((by rw [hg_]; exact (below_size HB.out)) : w.heap.size ≤ g3); have NBg1_g3 : g1 ≠ g3 := (by rw [hg_]; exact Nat.ne_of_lt (blk_lt BKg1.out)); have NBg3_g1 : g3 ≠ g1 := Ne.symm NBg1_g3; have NBg2_g3 : g2 ≠ g3 := (by rw [hg_]; exact Nat.ne_of_lt (blk_lt BKg2.out)); have NBg3_g2 : g3 ≠ g2 := Ne.symm NBg2_g3; clear hg_; have n_ := Aside0.mk (blk_below BKg1.out hb_); clear BKg1; have BKg1 := n_; clear n_; clear hcg1_0 hfg1_0; clear hcg1_1 hfg1_1; have n_ := Aside0.mk (blk_below BKg2.out hb_); clear BKg2; have BKg2 := n_; clear n_; clear hcg2_0 hfg2_0; have n_ := Aside0.mk (below_step HB.out hb_); clear HB; have HB := n_; clear n_; have BKg3 := Aside0.mk hbox_; clear hbox_ hb_; have hcg1_0 : W3.cell? ⟨g1, 0, none⟩ = some (.int .i64 a) := (blk_cell BKg1.out 0).trans rfl; have hfg1_0 := blk_frozen BKg1.out 0; have hcg1_1 : W3.cell? ⟨g1, 1, none⟩ = some (.int .i64 b) := (blk_cell BKg1.out 1).trans rfl; have hfg1_1 := blk_frozen BKg1.out 1; have hcg2_0 : W3.cell? ⟨g2, 0, none⟩ = some (.int .i64 m) := (blk_cell BKg2.out 0).trans rfl; have hfg2_0 := blk_frozen BKg2.out 0; have hcg3_0 : W3.cell? ⟨g3, 0, none⟩ = some (.int .i64 0) := (blk_cell BKg3.out 0).trans rfl; have hfg3_0 := blk_frozen BKg3.out 0; have hcg3_1 : W3.cell? ⟨g3, 1, none⟩ = some (.int .i64 0) := (blk_cell BKg3.out 1).trans rfl; have hfg3_1 := blk_frozen BKg3.out 1))
  ((with_reducible refine (both_clamp a b 0 0 m ⟨g2, 0, none⟩ _ h0 h1 hcg2_0).mono ?_); rintro e_ W4 ⟨rfl, hb_⟩)
  have n_ := Aside0.mk (blk_below BKg1.out hb_); clear BKg1; have BKg1 := n_; clear n_
  clear hcg1_0 hfg1_0
  clear hcg1_1 hfg1_1
  have n_ := Aside0.mk (blk_below BKg2.out hb_); clear BKg2; have BKg2 := n_; clear n_
  clear hcg2_0 hfg2_0
  have n_ := Aside0.mk (blk_below BKg3.out hb_); clear BKg3; have BKg3 := n_; clear n_
  clear hcg3_0 hfg3_0
  clear hcg3_1 hfg3_1
  have n_ := Aside0.mk (below_step HB.out hb_); clear HB; have HB := n_; clear n_
  clear hb_
  have hcg1_0 : W4.cell? ⟨g1, 0, none⟩ = some (.int .i64 a) := (blk_cell BKg1.out 0).trans rfl
  have hfg1_0 := blk_frozen BKg1.out 0
  have hcg1_1 : W4.cell? ⟨g1, 1, none⟩ = some (.int .i64 b) := (blk_cell BKg1.out 1).trans rfl
  have hfg1_1 := blk_frozen BKg1.out 1
  have hcg2_0 : W4.cell? ⟨g2, 0, none⟩ = some (.int .i64 m) := (blk_cell BKg2.out 0).trans rfl
  have hfg2_0 := blk_frozen BKg2.out 0
  have hcg3_0 : W4.cell? ⟨g3, 0, none⟩ = some (.int .i64 0) := (blk_cell BKg3.out 0).trans rfl
  have hfg3_0 := blk_frozen BKg3.out 0
  have hcg3_1 : W4.cell? ⟨g3, 1, none⟩ = some (.int .i64 0) := (blk_cell BKg3.out 1).trans rfl
  have hfg3_1 := blk_frozen BKg3.out 1
  go_wp2_with fail
  ((with_reducible refine (made_calls _ _ _).mono ?_); rintro e_ W5 ⟨rfl, hb_⟩)
  have n_ := Aside0.mk (blk_below BKg1.out hb_); clear BKg1; have BKg1 := n_; clear n_
  clear hcg1_0 hfg1_0
  clear hcg1_1 hfg1_1
  have n_ := Aside0.mk (blk_below BKg2.out hb_); clear BKg2; have BKg2 := n_; clear n_
  clear hcg2_0 hfg2_0
  have n_ := Aside0.mk (blk_below BKg3.out hb_); clear BKg3; have BKg3 := n_; clear n_
  clear hcg3_0 hfg3_0
  clear hcg3_1 hfg3_1
  have n_ := Aside0.mk (below_step HB.out hb_); clear HB; have HB := n_; clear n_
  clear hb_
  have hcg1_0 : W5.cell? ⟨g1, 0, none⟩ = some (.int .i64 a) := (blk_cell BKg1.out 0).trans rfl
  have hfg1_0 := blk_frozen BKg1.out 0
  have hcg1_1 : W5.cell? ⟨g1, 1, none⟩ = some (.int .i64 b) := (blk_cell BKg1.out 1).trans rfl
  have hfg1_1 := blk_frozen BKg1.out 1
  have hcg2_0 : W5.cell? ⟨g2, 0, none⟩ = some (.int .i64 m) := (blk_cell BKg2.out 0).trans rfl
  have hfg2_0 := blk_frozen BKg2.out 0
  have hcg3_0 : W5.cell? ⟨g3, 0, none⟩ = some (.int .i64 0) := (blk_cell BKg3.out 0).trans rfl
  have hfg3_0 := blk_frozen BKg3.out 0
  have hcg3_1 : W5.cell? ⟨g3, 1, none⟩ = some (.int .i64 0) := (blk_cell BKg3.out 1).trans rfl
  have hfg3_1 := blk_frozen BKg3.out 1
  go_wp2
  refine bodyPost_ret (results_ct rfl _ _ g3 23 #[.int .i64 (clampI a m), .int .i64 (clampI b m)] (0, 0) _ rfl (by (with_reducible repeat (first | refine blk_drewN ?_ _ | refine blk_drew ?_ | refine blk_alloc ?_ _)); refine blk_put (cs := #[.int .i64 (clampI a m), .int .i64 0]) ?_ 1 _ rfl; (with_reducible repeat (first | refine blk_drewN ?_ _ | refine blk_drew ?_ | refine blk_alloc ?_ _)); refine blk_put (cs := #[.int .i64 0, .int .i64 0]) ?_ 0 _ rfl; (with_reducible repeat (first | refine blk_drewN ?_ _ | refine blk_drew ?_ | refine blk_alloc ?_ _)); exact BKg3.out) Try.underlying23 rfl (by kernel_rfl)) rfl ?_
  exact ⟨rfl, by repeat (first | (with_reducible first | exact HB.out | apply below_alloc | apply pw_below_drewN | apply below_drew1 | refine below_set ?_ GEg3.out) | exact HB.out)⟩

set_option maxHeartbeats 1000000 in
set_option maxRecDepth 100000 in
theorem vscale_calls (a b k : Int) (w : World) (ha : I64 a) (hb : I64 b) (hk : I64 k) :
    Calls Try.prog 16 #[.agg #[.int .i64 a, .int .i64 b], .int .i64 k] w
      fun e w' => e = .returned (.agg #[.int .i64 (fmul a k), .int .i64 (fmul b k)]) ∧ Below w.heap.size w w' := by
  have HB := Aside0.mk (Below.refl w.heap.size w)
  go_enter Try.func16, Try.ntmps16
  go_wp2_with (first | ((with_reducible refine gate_dst (N := 2) rfl ?_); refine box_event ?hg (N := 2) ?hd (cs := #[.int .i64 a, .int .i64 b]) (t := 23) ?hr ?_; (case hd => rfl); (case hg => rfl); (case hr => first | (go_simp; done) | (go_simp; rfl)); intro g1 hg_ W1 hbox_ hb_; have GEg1 := Aside0.mk ((by rw [hg_]; exact (below_size HB.out)) : w.heap.size ≤ g1); clear hg_; have n_ := Aside0.mk (below_step HB.out hb_); clear HB; have HB := n_; clear n_; have BKg1 := Aside0.mk hbox_; clear hbox_ hb_; have hcg1_0 : W1.cell? ⟨g1, 0, none⟩ = some (.int .i64 a) := (blk_cell BKg1.out 0).trans rfl; have hfg1_0 := blk_frozen BKg1.out 0; have hcg1_1 : W1.cell? ⟨g1, 1, none⟩ = some (.int .i64 b) := (blk_cell BKg1.out 1).trans rfl; have hfg1_1 := blk_frozen BKg1.out 1) | ((with_reducible refine gate_dst (N := 4) rfl ?_); refine box_event ?hg (N := 4) ?hd (cs := #[.int .i64 0, .int .i64 0]) (t := 23) ?hr ?_; (case hd => rfl); (case hg => rfl); (case hr => first | (go_simp; done) | (go_simp; rfl)); intro g3 hg_ W2 hbox_ hb_; have GEg3 := Aside0.mk ((by rw [hg_]; exact (below_size HB.out)) : w.heap.size ≤ g3); have NBg1_g3 : g1 ≠ g3 := (by rw [hg_]; exact Nat.ne_of_lt (blk_lt BKg1.out)); have NBg3_g1 : g3 ≠ g1 := Ne.symm NBg1_g3; clear hg_; have n_ := Aside0.mk (blk_below BKg1.out hb_); clear BKg1; have BKg1 := n_; clear n_; clear hcg1_0 hfg1_0; clear hcg1_1 hfg1_1; have n_ := Aside0.mk (below_step HB.out hb_); clear HB; have HB := n_; clear n_; have BKg3 := Aside0.mk hbox_; clear hbox_ hb_; have hcg1_0 : W2.cell? ⟨g1, 0, none⟩ = some (.int .i64 a) := (blk_cell BKg1.out 0).trans rfl; have hfg1_0 := blk_frozen BKg1.out 0; have hcg1_1 : W2.cell? ⟨g1, 1, none⟩ = some (.int .i64 b) := (blk_cell BKg1.out 1).trans rfl; have hfg1_1 := blk_frozen BKg1.out 1; have hcg3_0 : W2.cell? ⟨g3, 0, none⟩ = some (.int .i64 0) := (blk_cell BKg3.out 0).trans rfl; have hfg3_0 := blk_frozen BKg3.out 0; have hcg3_1 : W2.cell? ⟨g3, 1, none⟩ = some (.int .i64 0) := (blk_cell BKg3.out 1).trans rfl; have hfg3_1 := blk_frozen BKg3.out 1))
  try simp only [Act.put, List.setIfInBounds_toArray, List.set_cons_zero, List.set_cons_succ]
  go_region_held3 (fun w' => w'.cell? ⟨g1, 0, none⟩ = some (.int .i64 a) ∧ w'.cell? ⟨g1, 1, none⟩ = some (.int .i64 b)) (go_keep) (first | (go_at_call 34; (with_reducible refine (made_calls _ _ _).mono ?_); rintro e_ W_ ⟨rfl, hb_⟩; have n_ := Aside0.mk (blk_below (g := g1) (show _ from by first | exact BKg1.out | exact blk_drew BKg1.out) hb_); clear BKg1; have BKg1 := n_; clear n_; (try clear hcg1_0); (try clear hfg1_0); (try clear hcg1_1); (try clear hfg1_1); have n_ := Aside0.mk (blk_below (g := g3) (show _ from by first | exact BKg3.out | exact blk_drew BKg3.out) hb_); clear BKg3; have BKg3 := n_; clear n_; (try clear hcg3_0); (try clear hfg3_0); (try clear hcg3_1); (try clear hfg3_1); have n_ := Aside0.mk (below_step (by first | exact HB.out | exact below_drew1 HB.out) hb_); clear HB; have HB := n_; clear n_; clear hb_; have hcg1_0 : W_.cell? ⟨g1, 0, none⟩ = some (.int .i64 a) := (blk_cell BKg1.out 0).trans rfl; have hfg1_0 := blk_frozen BKg1.out 0; have hcg1_1 : W_.cell? ⟨g1, 1, none⟩ = some (.int .i64 b) := (blk_cell BKg1.out 1).trans rfl; have hfg1_1 := blk_frozen BKg1.out 1; have hcg3_0 : W_.cell? ⟨g3, 0, none⟩ = some (.int .i64 0) := (blk_cell BKg3.out 0).trans rfl; have hfg3_0 := blk_frozen BKg3.out 0; have hcg3_1 : W_.cell? ⟨g3, 1, none⟩ = some (.int .i64 0) := (blk_cell BKg3.out 1).trans rfl; have hfg3_1 := blk_frozen BKg3.out 1) | (go_at_call 35; (with_reducible refine (both_mul _ _ _ _ _ ha hb hk hk).mono ?_); rintro e_ W_ ⟨rfl, hb_⟩; have n_ := Aside0.mk (blk_below (g := g1) (show _ from by first | exact BKg1.out | exact blk_drew BKg1.out) hb_); clear BKg1; have BKg1 := n_; clear n_; (try clear hcg1_0); (try clear hfg1_0); (try clear hcg1_1); (try clear hfg1_1); have n_ := Aside0.mk (blk_below (g := g3) (show _ from by first | exact BKg3.out | exact blk_drew BKg3.out) hb_); clear BKg3; have BKg3 := n_; clear n_; (try clear hcg3_0); (try clear hfg3_0); (try clear hcg3_1); (try clear hfg3_1); have n_ := Aside0.mk (below_step (by first | exact HB.out | exact below_drew1 HB.out) hb_); clear HB; have HB := n_; clear n_; clear hb_; have hcg1_0 : W_.cell? ⟨g1, 0, none⟩ = some (.int .i64 a) := (blk_cell BKg1.out 0).trans rfl; have hfg1_0 := blk_frozen BKg1.out 0; have hcg1_1 : W_.cell? ⟨g1, 1, none⟩ = some (.int .i64 b) := (blk_cell BKg1.out 1).trans rfl; have hfg1_1 := blk_frozen BKg1.out 1; have hcg3_0 : W_.cell? ⟨g3, 0, none⟩ = some (.int .i64 0) := (blk_cell BKg3.out 0).trans rfl; have hfg3_0 := blk_frozen BKg3.out 0; have hcg3_1 : W_.cell? ⟨g3, 1, none⟩ = some (.int .i64 0) := (blk_cell BKg3.out 1).trans rfl; have hfg3_1 := blk_frozen BKg3.out 1))
  go_wp2
  refine bodyPost_ret (results_cell_row rfl _ _ g3 23 #[.int .i64 (fmul a k), .int .i64 (fmul b k)] (0, 0) _ rfl (by (with_reducible repeat (first | refine blk_drewN ?_ _ | refine blk_drew ?_ | refine blk_alloc ?_ _)); refine blk_put (cs := #[.int .i64 (fmul a k), .int .i64 0]) ?_ 1 _ rfl; (with_reducible repeat (first | refine blk_drewN ?_ _ | refine blk_drew ?_ | refine blk_alloc ?_ _)); refine blk_put (cs := #[.int .i64 0, .int .i64 0]) ?_ 0 _ rfl; (with_reducible repeat (first | refine blk_drewN ?_ _ | refine blk_drew ?_ | refine blk_alloc ?_ _)); exact BKg3.out) Try.underlying23 rfl (by kernel_rfl)) rfl ?_
  exact ⟨rfl, by repeat (first | (with_reducible first | exact HB.out | apply below_alloc | apply pw_below_drewN | apply below_drew1 | refine below_set ?_ GEg3.out) | exact HB.out)⟩

end Go.Proofs.Ytjknihjdhccanaa