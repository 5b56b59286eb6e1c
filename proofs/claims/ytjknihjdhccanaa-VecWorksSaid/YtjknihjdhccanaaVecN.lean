/- The walk of VecNear. -/
import Derived.Test.YtjknihjdhccanaaVecM
namespace Go.Proofs.Ytjknihjdhccanaa
open Go.RowKit Go.Proofs.YtjknihjdhccanaaW.PrintWords Go.Proofs.YtjknihjdhccanaaW.PrintLast Go.Proofs.YtjknihjdhccanaaW.PrintMore
attribute [local go_sem] max_mx min_mn
set_option linter.unusedVariables false
set_option linter.unusedSimpArgs false

set_option maxHeartbeats 4000000 in
set_option maxRecDepth 100000 in
theorem vecnear_1 (a b c d r more : Int) (w : World) (ha : I64 a) (hb : I64 b) (hc : I64 c) (hd : I64 d) (hr : I64 r) (hm : I64 more) (hneg : r < 0) :
    Calls Try.prog 4 #[.agg #[.int .i64 a, .int .i64 b], .agg #[.int .i64 c, .int .i64 d], .int .i64 r, .int .i64 more] w
      fun e w' => e = .returned (.bool true) ∧ Below w.heap.size w w' := by
  have HB := Aside0.mk (Below.refl w.heap.size w)
  have r1 := hr.1
  have r2 := hr.2
  have hp := near_neg a b c d r hneg
  have h2 : nearB c d a b r = false := (near_comm a b c d r).trans hp
  have m1 := mid_ge ha hc
  have m2 := mid_le ha hc
  have m3 := mid_ge hb hd
  have m4 := mid_le hb hd
  have m5 := mid_comm ha hc
  have m6 := mid_comm hb hd
  have n1 : nearB a b a b (mx r 0) = true := near_self a b _ (le_mx' _ _)
  have hz : I64 0 := ⟨by omega, by omega⟩
  go_enter Try.func4, Try.ntmps4
  go_wp2_with (first | ((with_reducible refine gate_dst (N := 4) rfl ?_); refine box_event ?hg (N := 4) ?hd (cs := #[.int .i64 a, .int .i64 b]) (t := 23) ?hr ?_; (case hd => rfl); (case hg => rfl); (case hr => first | (go_simp; done) | (go_simp; rfl)); intro g1 hg_ W1 hbox_ hb_; have GEg1 := Aside0.mk ((by rw [hg_]; exact (below_size HB.out)) : w.heap.size ≤ g1); clear hg_; have n_ := Aside0.mk (below_step HB.out hb_); clear HB; have HB := n_; clear n_; have BKg1 := Aside0.mk hbox_; clear hbox_ hb_; have hcg1_0 : W1.cell? ⟨g1, 0, none⟩ = some (.int .i64 a) := (blk_cell BKg1.out 0).trans rfl; have hfg1_0 := blk_frozen BKg1.out 0; have hcg1_1 : W1.cell? ⟨g1, 1, none⟩ = some (.int .i64 b) := (blk_cell BKg1.out 1).trans rfl; have hfg1_1 := blk_frozen BKg1.out 1) | ((with_reducible refine gate_dst (N := 5) rfl ?_); refine box_event ?hg (N := 5) ?hd (cs := #[.int .i64 c, .int .i64 d]) (t := 23) ?hr ?_; (case hd => rfl); (case hg => rfl); (case hr => first | (go_simp; done) | (go_simp; rfl)); intro g2 hg_ W2 hbox_ hb_; have GEg2 := Aside0.mk ((by rw [hg_]; exact (below_size HB.out)) : w.heap.size ≤ g2); have NBg1_g2 : g1 ≠ g2 := (by rw [hg_]; exact Nat.ne_of_lt (blk_lt BKg1.out)); have NBg2_g1 : g2 ≠ g1 := Ne.symm NBg1_g2; clear hg_; have n_ := Aside0.mk (blk_below BKg1.out hb_); clear BKg1; have BKg1 := n_; clear n_; clear hcg1_0 hfg1_0; clear hcg1_1 hfg1_1; have n_ := Aside0.mk (below_step HB.out hb_); clear HB; have HB := n_; clear n_; have BKg2 := Aside0.mk hbox_; clear hbox_ hb_; have hcg1_0 : W2.cell? ⟨g1, 0, none⟩ = some (.int .i64 a) := (blk_cell BKg1.out 0).trans rfl; have hfg1_0 := blk_frozen BKg1.out 0; have hcg1_1 : W2.cell? ⟨g1, 1, none⟩ = some (.int .i64 b) := (blk_cell BKg1.out 1).trans rfl; have hfg1_1 := blk_frozen BKg1.out 1; have hcg2_0 : W2.cell? ⟨g2, 0, none⟩ = some (.int .i64 c) := (blk_cell BKg2.out 0).trans rfl; have hfg2_0 := blk_frozen BKg2.out 0; have hcg2_1 : W2.cell? ⟨g2, 1, none⟩ = some (.int .i64 d) := (blk_cell BKg2.out 1).trans rfl; have hfg2_1 := blk_frozen BKg2.out 1))
  ((with_reducible refine (awake_calls _).mono ?_); rintro e_ W3 ⟨rfl, hb_⟩)
  have n_ := Aside0.mk (blk_below BKg1.out hb_); clear BKg1; have BKg1 := n_; clear n_
  clear hcg1_0 hfg1_0
  clear hcg1_1 hfg1_1
  have n_ := Aside0.mk (blk_below BKg2.out hb_); clear BKg2; have BKg2 := n_; clear n_
  clear hcg2_0 hfg2_0
  clear hcg2_1 hfg2_1
  have n_ := Aside0.mk (below_step HB.out hb_); clear HB; have HB := n_; clear n_
  clear hb_
  have hcg1_0 : W3.cell? ⟨g1, 0, none⟩ = some (.int .i64 a) := (blk_cell BKg1.out 0).trans rfl
  have hfg1_0 := blk_frozen BKg1.out 0
  have hcg1_1 : W3.cell? ⟨g1, 1, none⟩ = some (.int .i64 b) := (blk_cell BKg1.out 1).trans rfl
  have hfg1_1 := blk_frozen BKg1.out 1
  have hcg2_0 : W3.cell? ⟨g2, 0, none⟩ = some (.int .i64 c) := (blk_cell BKg2.out 0).trans rfl
  have hfg2_0 := blk_frozen BKg2.out 0
  have hcg2_1 : W3.cell? ⟨g2, 1, none⟩ = some (.int .i64 d) := (blk_cell BKg2.out 1).trans rfl
  have hfg2_1 := blk_frozen BKg2.out 1
  go_wp2_with fail
  ((with_reducible refine (vnear_calls _ _ _ _ _ _ ha hb hc hd hr).mono ?_); rintro e_ W4 ⟨rfl, hb_⟩)
  have n_ := Aside0.mk (blk_below BKg1.out hb_); clear BKg1; have BKg1 := n_; clear n_
  clear hcg1_0 hfg1_0
  clear hcg1_1 hfg1_1
  have n_ := Aside0.mk (blk_below BKg2.out hb_); clear BKg2; have BKg2 := n_; clear n_
  clear hcg2_0 hfg2_0
  clear hcg2_1 hfg2_1
  have n_ := Aside0.mk (below_step HB.out hb_); clear HB; have HB := n_; clear n_
  clear hb_
  have hcg1_0 : W4.cell? ⟨g1, 0, none⟩ = some (.int .i64 a) := (blk_cell BKg1.out 0).trans rfl
  have hfg1_0 := blk_frozen BKg1.out 0
  have hcg1_1 : W4.cell? ⟨g1, 1, none⟩ = some (.int .i64 b) := (blk_cell BKg1.out 1).trans rfl
  have hfg1_1 := blk_frozen BKg1.out 1
  have hcg2_0 : W4.cell? ⟨g2, 0, none⟩ = some (.int .i64 c) := (blk_cell BKg2.out 0).trans rfl
  have hfg2_0 := blk_frozen BKg2.out 0
  have hcg2_1 : W4.cell? ⟨g2, 1, none⟩ = some (.int .i64 d) := (blk_cell BKg2.out 1).trans rfl
  have hfg2_1 := blk_frozen BKg2.out 1
  go_wp2_with fail
  ((with_reducible refine (vnear_calls _ _ _ _ _ _ hc hd ha hb hr).mono ?_); rintro e_ W5 ⟨rfl, hb_⟩)
  have n_ := Aside0.mk (blk_below BKg1.out hb_); clear BKg1; have BKg1 := n_; clear n_
  clear hcg1_0 hfg1_0
  clear hcg1_1 hfg1_1
  have n_ := Aside0.mk (blk_below BKg2.out hb_); clear BKg2; have BKg2 := n_; clear n_
  clear hcg2_0 hfg2_0
  clear hcg2_1 hfg2_1
  have n_ := Aside0.mk (below_step HB.out hb_); clear HB; have HB := n_; clear n_
  clear hb_
  have hcg1_0 : W5.cell? ⟨g1, 0, none⟩ = some (.int .i64 a) := (blk_cell BKg1.out 0).trans rfl
  have hfg1_0 := blk_frozen BKg1.out 0
  have hcg1_1 : W5.cell? ⟨g1, 1, none⟩ = some (.int .i64 b) := (blk_cell BKg1.out 1).trans rfl
  have hfg1_1 := blk_frozen BKg1.out 1
  have hcg2_0 : W5.cell? ⟨g2, 0, none⟩ = some (.int .i64 c) := (blk_cell BKg2.out 0).trans rfl
  have hfg2_0 := blk_frozen BKg2.out 0
  have hcg2_1 : W5.cell? ⟨g2, 1, none⟩ = some (.int .i64 d) := (blk_cell BKg2.out 1).trans rfl
  have hfg2_1 := blk_frozen BKg2.out 1
  go_wp2_with fail
  ((with_reducible refine (vnear_calls _ _ _ _ _ _ ha hb hc hd (mx_I64 hr hm)).mono ?_); rintro e_ W6 ⟨rfl, hb_⟩)
  have n_ := Aside0.mk (blk_below BKg1.out hb_); clear BKg1; have BKg1 := n_; clear n_
  clear hcg1_0 hfg1_0
  clear hcg1_1 hfg1_1
  have n_ := Aside0.mk (blk_below BKg2.out hb_); clear BKg2; have BKg2 := n_; clear n_
  clear hcg2_0 hfg2_0
  clear hcg2_1 hfg2_1
  have n_ := Aside0.mk (below_step HB.out hb_); clear HB; have HB := n_; clear n_
  clear hb_
  have hcg1_0 : W6.cell? ⟨g1, 0, none⟩ = some (.int .i64 a) := (blk_cell BKg1.out 0).trans rfl
  have hfg1_0 := blk_frozen BKg1.out 0
  have hcg1_1 : W6.cell? ⟨g1, 1, none⟩ = some (.int .i64 b) := (blk_cell BKg1.out 1).trans rfl
  have hfg1_1 := blk_frozen BKg1.out 1
  have hcg2_0 : W6.cell? ⟨g2, 0, none⟩ = some (.int .i64 c) := (blk_cell BKg2.out 0).trans rfl
  have hfg2_0 := blk_frozen BKg2.out 0
  have hcg2_1 : W6.cell? ⟨g2, 1, none⟩ = some (.int .i64 d) := (blk_cell BKg2.out 1).trans rfl
  have hfg2_1 := blk_frozen BKg2.out 1
  go_wp2_with fail
  ((with_reducible refine (vmean_calls _ _ _ _ _).mono ?_); rintro e_ W7 ⟨rfl, hb_⟩)
  have n_ := Aside0.mk (blk_below BKg1.out hb_); clear BKg1; have BKg1 := n_; clear n_
  clear hcg1_0 hfg1_0
  clear hcg1_1 hfg1_1
  have n_ := Aside0.mk (blk_below BKg2.out hb_); clear BKg2; have BKg2 := n_; clear n_
  clear hcg2_0 hfg2_0
  clear hcg2_1 hfg2_1
  have n_ := Aside0.mk (below_step HB.out hb_); clear HB; have HB := n_; clear n_
  clear hb_
  have hcg1_0 : W7.cell? ⟨g1, 0, none⟩ = some (.int .i64 a) := (blk_cell BKg1.out 0).trans rfl
  have hfg1_0 := blk_frozen BKg1.out 0
  have hcg1_1 : W7.cell? ⟨g1, 1, none⟩ = some (.int .i64 b) := (blk_cell BKg1.out 1).trans rfl
  have hfg1_1 := blk_frozen BKg1.out 1
  have hcg2_0 : W7.cell? ⟨g2, 0, none⟩ = some (.int .i64 c) := (blk_cell BKg2.out 0).trans rfl
  have hfg2_0 := blk_frozen BKg2.out 0
  have hcg2_1 : W7.cell? ⟨g2, 1, none⟩ = some (.int .i64 d) := (blk_cell BKg2.out 1).trans rfl
  have hfg2_1 := blk_frozen BKg2.out 1
  go_wp2_with (first | ((with_reducible refine gate_dst (N := 13) rfl ?_); refine box_event ?hg (N := 13) ?hd (cs := #[.int .i64 0, .int .i64 0]) (t := 23) ?hr ?_; (case hd => rfl); (case hg => rfl); (case hr => first | (go_simp; done) | (go_simp; rfl)); intro g3 hg_ W8 hbox_ hb_; have GEg3 := Aside0.mk ((by rw [hg_]; exact (below_size HB.out)) : w.heap.size ≤ g3); have NBg1_g3 : g1 ≠ g3 := (by rw [hg_]; exact Nat.ne_of_lt (blk_lt BKg1.out)); have NBg3_g1 : g3 ≠ g1 := Ne.symm NBg1_g3; have NBg2_g3 : g2 ≠ g3 := (by rw [hg_]; exact Nat.ne_of_lt (blk_lt BKg2.out)); have NBg3_g2 : g3 ≠ g2 := Ne.symm NBg2_g3; clear hg_; have n_ := Aside0.mk (blk_below BKg1.out hb_); clear BKg1; have BKg1 := n_; clear n_; clear hcg1_0 hfg1_0; clear hcg1_1 hfg1_1; have n_ := Aside0.mk (blk_below BKg2.out hb_); clear BKg2; have BKg2 := n_; clear n_; clear hcg2_0 hfg2_0; clear hcg2_1 hfg2_1; have n_ := Aside0.mk (below_step HB.out hb_); clear HB; have HB := n_; clear n_; have BKg3 := Aside0.mk hbox_; clear hbox_ hb_; have hcg1_0 : W8.cell? ⟨g1, 0, none⟩ = some (.int .i64 a) := (blk_cell BKg1.out 0).trans rfl; have hfg1_0 := blk_frozen BKg1.out 0; have hcg1_1 : W8.cell? ⟨g1, 1, none⟩ = some (.int .i64 b) := (blk_cell BKg1.out 1).trans rfl; have hfg1_1 := blk_frozen BKg1.out 1; have hcg2_0 : W8.cell? ⟨g2, 0, none⟩ = some (.int .i64 c) := (blk_cell BKg2.out 0).trans rfl; have hfg2_0 := blk_frozen BKg2.out 0; have hcg2_1 : W8.cell? ⟨g2, 1, none⟩ = some (.int .i64 d) := (blk_cell BKg2.out 1).trans rfl; have hfg2_1 := blk_frozen BKg2.out 1; have hcg3_0 : W8.cell? ⟨g3, 0, none⟩ = some (.int .i64 0) := (blk_cell BKg3.out 0).trans rfl; have hfg3_0 := blk_frozen BKg3.out 0; have hcg3_1 : W8.cell? ⟨g3, 1, none⟩ = some (.int .i64 0) := (blk_cell BKg3.out 1).trans rfl; have hfg3_1 := blk_frozen BKg3.out 1))
  have n_ : Aside0 (((W8.setCell ⟨g3, 0, none⟩ (.int .i64 (midI a c))).setCell ⟨g3, 1, none⟩ (.int .i64 (midI b d))).heap[g3]? = some (.cells #[.int .i64 (midI a c), .int .i64 (midI b d)] 23 (0, 0))) := ⟨by refine blk_put (cs := #[.int .i64 (midI a c), .int .i64 0]) ?_ 1 _ rfl; refine blk_put (cs := #[.int .i64 0, .int .i64 0]) ?_ 0 _ rfl; exact BKg3.out⟩
  have m_ : Aside0 (((W8.setCell ⟨g3, 0, none⟩ (.int .i64 (midI a c))).setCell ⟨g3, 1, none⟩ (.int .i64 (midI b d))).heap[g1]? = some (.cells #[.int .i64 a, .int .i64 b] 23 (0, 0))) := ⟨(blk_far (blk_far BKg1.out NBg1_g3 _) NBg1_g3 _)⟩
  clear BKg1; have BKg1 := m_; clear m_
  have m_ : Aside0 (((W8.setCell ⟨g3, 0, none⟩ (.int .i64 (midI a c))).setCell ⟨g3, 1, none⟩ (.int .i64 (midI b d))).heap[g2]? = some (.cells #[.int .i64 c, .int .i64 d] 23 (0, 0))) := ⟨(blk_far (blk_far BKg2.out NBg2_g3 _) NBg2_g3 _)⟩
  clear BKg2; have BKg2 := m_; clear m_
  have b_ : Aside0 (Below w.heap.size w ((W8.setCell ⟨g3, 0, none⟩ (.int .i64 (midI a c))).setCell ⟨g3, 1, none⟩ (.int .i64 (midI b d)))) := ⟨(below_set (below_set HB.out GEg3.out) GEg3.out)⟩
  clear BKg3 HB; have BKg3 := n_; have HB := b_; clear n_ b_
  clear hcg1_0 hfg1_0
  clear hcg1_1 hfg1_1
  clear hcg2_0 hfg2_0
  clear hcg2_1 hfg2_1
  clear hcg3_0 hfg3_0
  clear hcg3_1 hfg3_1
  generalize ((W8.setCell ⟨g3, 0, none⟩ (.int .i64 (midI a c))).setCell ⟨g3, 1, none⟩ (.int .i64 (midI b d))) = W9 at *
  have hcg1_0 : W9.cell? ⟨g1, 0, none⟩ = some (.int .i64 a) := (blk_cell BKg1.out 0).trans rfl
  have hfg1_0 := blk_frozen BKg1.out 0
  have hcg1_1 : W9.cell? ⟨g1, 1, none⟩ = some (.int .i64 b) := (blk_cell BKg1.out 1).trans rfl
  have hfg1_1 := blk_frozen BKg1.out 1
  have hcg2_0 : W9.cell? ⟨g2, 0, none⟩ = some (.int .i64 c) := (blk_cell BKg2.out 0).trans rfl
  have hfg2_0 := blk_frozen BKg2.out 0
  have hcg2_1 : W9.cell? ⟨g2, 1, none⟩ = some (.int .i64 d) := (blk_cell BKg2.out 1).trans rfl
  have hfg2_1 := blk_frozen BKg2.out 1
  have hcg3_0 : W9.cell? ⟨g3, 0, none⟩ = some (.int .i64 (midI a c)) := (blk_cell BKg3.out 0).trans rfl
  have hfg3_0 := blk_frozen BKg3.out 0
  have hcg3_1 : W9.cell? ⟨g3, 1, none⟩ = some (.int .i64 (midI b d)) := (blk_cell BKg3.out 1).trans rfl
  have hfg3_1 := blk_frozen BKg3.out 1
  have hqg1_0 : ∀ u : Aft W9, u.w.cell? ⟨g1, 0, none⟩ = some (.int .i64 a) := fun u => (blk_cell (blk_below BKg1.out u.below) 0).trans rfl
  have hqg1_1 : ∀ u : Aft W9, u.w.cell? ⟨g1, 1, none⟩ = some (.int .i64 b) := fun u => (blk_cell (blk_below BKg1.out u.below) 1).trans rfl
  have hqg2_0 : ∀ u : Aft W9, u.w.cell? ⟨g2, 0, none⟩ = some (.int .i64 c) := fun u => (blk_cell (blk_below BKg2.out u.below) 0).trans rfl
  have hqg2_1 : ∀ u : Aft W9, u.w.cell? ⟨g2, 1, none⟩ = some (.int .i64 d) := fun u => (blk_cell (blk_below BKg2.out u.below) 1).trans rfl
  have hqg3_0 : ∀ u : Aft W9, u.w.cell? ⟨g3, 0, none⟩ = some (.int .i64 (midI a c)) := fun u => (blk_cell (blk_below BKg3.out u.below) 0).trans rfl
  have hqg3_1 : ∀ u : Aft W9, u.w.cell? ⟨g3, 1, none⟩ = some (.int .i64 (midI b d)) := fun u => (blk_cell (blk_below BKg3.out u.below) 1).trans rfl
  refine wp_region_aft (by kernel_rfl) (by kernel_rfl) ?_
  repeat (go_big_quiet_step (first | (go_at_call 13; refine aft_call (fun w => vmean_calls _ _ _ _ w))))
  refine wpQuiet_nil ?_
  intro W10 hb_
  clear hqg1_0
  clear hqg1_1
  clear hqg2_0
  clear hqg2_1
  clear hqg3_0
  clear hqg3_1
  have n_ := Aside0.mk (blk_below BKg1.out hb_); clear BKg1; have BKg1 := n_; clear n_
  clear hcg1_0 hfg1_0
  clear hcg1_1 hfg1_1
  have n_ := Aside0.mk (blk_below BKg2.out hb_); clear BKg2; have BKg2 := n_; clear n_
  clear hcg2_0 hfg2_0
  clear hcg2_1 hfg2_1
  have n_ := Aside0.mk (blk_below BKg3.out hb_); clear BKg3; have BKg3 := n_; clear n_
  clear hcg3_0 hfg3_0
  clear hcg3_1 hfg3_1
  have n_ := Aside0.mk (below_step HB.out hb_); clear HB; have HB := n_; clear n_
  clear hb_
  have hcg1_0 : W10.cell? ⟨g1, 0, none⟩ = some (.int .i64 a) := (blk_cell BKg1.out 0).trans rfl
  have hfg1_0 := blk_frozen BKg1.out 0
  have hcg1_1 : W10.cell? ⟨g1, 1, none⟩ = some (.int .i64 b) := (blk_cell BKg1.out 1).trans rfl
  have hfg1_1 := blk_frozen BKg1.out 1
  have hcg2_0 : W10.cell? ⟨g2, 0, none⟩ = some (.int .i64 c) := (blk_cell BKg2.out 0).trans rfl
  have hfg2_0 := blk_frozen BKg2.out 0
  have hcg2_1 : W10.cell? ⟨g2, 1, none⟩ = some (.int .i64 d) := (blk_cell BKg2.out 1).trans rfl
  have hfg2_1 := blk_frozen BKg2.out 1
  have hcg3_0 : W10.cell? ⟨g3, 0, none⟩ = some (.int .i64 (midI a c)) := (blk_cell BKg3.out 0).trans rfl
  have hfg3_0 := blk_frozen BKg3.out 0
  have hcg3_1 : W10.cell? ⟨g3, 1, none⟩ = some (.int .i64 (midI b d)) := (blk_cell BKg3.out 1).trans rfl
  have hfg3_1 := blk_frozen BKg3.out 1
  go_wp2_with fail
  ((with_reducible refine (vclamp_no _ _ _ _ hneg).mono ?_); rintro e_ W11 ⟨rfl, hb_⟩)
  have n_ := Aside0.mk (blk_below BKg1.out hb_); clear BKg1; have BKg1 := n_; clear n_
  clear hcg1_0 hfg1_0
  clear hcg1_1 hfg1_1
  have n_ := Aside0.mk (blk_below BKg2.out hb_); clear BKg2; have BKg2 := n_; clear n_
  clear hcg2_0 hfg2_0
  clear hcg2_1 hfg2_1
  have n_ := Aside0.mk (blk_below BKg3.out hb_); clear BKg3; have BKg3 := n_; clear n_
  clear hcg3_0 hfg3_0
  clear hcg3_1 hfg3_1
  have n_ := Aside0.mk (below_step HB.out hb_); clear HB; have HB := n_; clear n_
  clear hb_
  have hcg1_0 : W11.cell? ⟨g1, 0, none⟩ = some (.int .i64 a) := (blk_cell BKg1.out 0).trans rfl
  have hfg1_0 := blk_frozen BKg1.out 0
  have hcg1_1 : W11.cell? ⟨g1, 1, none⟩ = some (.int .i64 b) := (blk_cell BKg1.out 1).trans rfl
  have hfg1_1 := blk_frozen BKg1.out 1
  have hcg2_0 : W11.cell? ⟨g2, 0, none⟩ = some (.int .i64 c) := (blk_cell BKg2.out 0).trans rfl
  have hfg2_0 := blk_frozen BKg2.out 0
  have hcg2_1 : W11.cell? ⟨g2, 1, none⟩ = some (.int .i64 d) := (blk_cell BKg2.out 1).trans rfl
  have hfg2_1 := blk_frozen BKg2.out 1
  have hcg3_0 : W11.cell? ⟨g3, 0, none⟩ = some (.int .i64 (midI a c)) := (blk_cell BKg3.out 0).trans rfl
  have hfg3_0 := blk_frozen BKg3.out 0
  have hcg3_1 : W11.cell? ⟨g3, 1, none⟩ = some (.int .i64 (midI b d)) := (blk_cell BKg3.out 1).trans rfl
  have hfg3_1 := blk_frozen BKg3.out 1
  go_wp2_with (first | ((with_reducible refine gate_dst (N := 15) rfl ?_); refine box_event ?hg (N := 15) ?hd (cs := #[.int .i64 0, .int .i64 0]) (t := 23) ?hr ?_; (case hd => rfl); (case hg => rfl); (case hr => first | (go_simp; done) | (go_simp; rfl)); intro g4 hg_ W12 hbox_ hb_; have GEg4 := Aside0.mk ((by rw [hg_]; exact (below_size HB.out)) : w.heap.size ≤ g4); have NBg1_g4 : g1 ≠ g4 := (by rw [hg_]; exact Nat.ne_of_lt (blk_lt BKg1.out)); have NBg4_g1 : g4 ≠ g1 := Ne.symm NBg1_g4; have NBg2_g4 : g2 ≠ g4 := (by rw [hg_]; exact Nat.ne_of_lt (blk_lt BKg2.out)); have NBg4_g2 : g4 ≠ g2 := Ne.symm NBg2_g4; have NBg3_g4 : g3 ≠ g4 := (by rw [hg_]; exact Nat.ne_of_lt (blk_lt BKg3.out)); have NBg4_g3 : g4 ≠ g3 := Ne.symm NBg3_g4; clear hg_; have n_ := Aside0.mk (blk_below BKg1.out hb_); clear BKg1; have BKg1 := n_; clear n_; clear hcg1_0 hfg1_0; clear hcg1_1 hfg1_1; have n_ := Aside0.mk (blk_below BKg2.out hb_); clear BKg2; have BKg2 := n_; clear n_; clear hcg2_0 hfg2_0; clear hcg2_1 hfg2_1; have n_ := Aside0.mk (blk_below BKg3.out hb_); clear BKg3; have BKg3 := n_; clear n_; clear hcg3_0 hfg3_0; clear hcg3_1 hfg3_1; have n_ := Aside0.mk (below_step HB.out hb_); clear HB; have HB := n_; clear n_; have BKg4 := Aside0.mk hbox_; clear hbox_ hb_; have hcg1_0 : W12.cell? ⟨g1, 0, none⟩ = some (.int .i64 a) := (blk_cell BKg1.out 0).trans rfl; have hfg1_0 := blk_frozen BKg1.out 0; have hcg1_1 : W12.cell? ⟨g1, 1, none⟩ = some (.int .i64 b) := (blk_cell BKg1.out 1).trans rfl; have hfg1_1 := blk_frozen BKg1.out 1; have hcg2_0 : W12.cell? ⟨g2, 0, none⟩ = some (.int .i64 c) := (blk_cell BKg2.out 0).trans rfl; have hfg2_0 := blk_frozen BKg2.out 0; have hcg2_1 : W12.cell? ⟨g2, 1, none⟩ = some (.int .i64 d) := (blk_cell BKg2.out 1).trans rfl; have hfg2_1 := blk_frozen BKg2.out 1; have hcg3_0 : W12.cell? ⟨g3, 0, none⟩ = some (.int .i64 (midI a c)) := (blk_cell BKg3.out 0).trans rfl; have hfg3_0 := blk_frozen BKg3.out 0; have hcg3_1 : W12.cell? ⟨g3, 1, none⟩ = some (.int .i64 (midI b d)) := (blk_cell BKg3.out 1).trans rfl; have hfg3_1 := blk_frozen BKg3.out 1; have hcg4_0 : W12.cell? ⟨g4, 0, none⟩ = some (.int .i64 0) := (blk_cell BKg4.out 0).trans rfl; have hfg4_0 := blk_frozen BKg4.out 0; have hcg4_1 : W12.cell? ⟨g4, 1, none⟩ = some (.int .i64 0) := (blk_cell BKg4.out 1).trans rfl; have hfg4_1 := blk_frozen BKg4.out 1))
  have n_ : Aside0 (((W12.setCell ⟨g4, 0, none⟩ (.int .i64 0)).setCell ⟨g4, 1, none⟩ (.int .i64 0)).heap[g4]? = some (.cells #[.int .i64 0, .int .i64 0] 23 (0, 0))) := ⟨by refine blk_put (cs := #[.int .i64 0, .int .i64 0]) ?_ 1 _ rfl; refine blk_put (cs := #[.int .i64 0, .int .i64 0]) ?_ 0 _ rfl; exact BKg4.out⟩
  have m_ : Aside0 (((W12.setCell ⟨g4, 0, none⟩ (.int .i64 0)).setCell ⟨g4, 1, none⟩ (.int .i64 0)).heap[g1]? = some (.cells #[.int .i64 a, .int .i64 b] 23 (0, 0))) := ⟨(blk_far (blk_far BKg1.out NBg1_g4 _) NBg1_g4 _)⟩
  clear BKg1; have BKg1 := m_; clear m_
  have m_ : Aside0 (((W12.setCell ⟨g4, 0, none⟩ (.int .i64 0)).setCell ⟨g4, 1, none⟩ (.int .i64 0)).heap[g2]? = some (.cells #[.int .i64 c, .int .i64 d] 23 (0, 0))) := ⟨(blk_far (blk_far BKg2.out NBg2_g4 _) NBg2_g4 _)⟩
  clear BKg2; have BKg2 := m_; clear m_
  have m_ : Aside0 (((W12.setCell ⟨g4, 0, none⟩ (.int .i64 0)).setCell ⟨g4, 1, none⟩ (.int .i64 0)).heap[g3]? = some (.cells #[.int .i64 (midI a c), .int .i64 (midI b d)] 23 (0, 0))) := ⟨(blk_far (blk_far BKg3.out NBg3_g4 _) NBg3_g4 _)⟩
  clear BKg3; have BKg3 := m_; clear m_
  have b_ : Aside0 (Below w.heap.size w ((W12.setCell ⟨g4, 0, none⟩ (.int .i64 0)).setCell ⟨g4, 1, none⟩ (.int .i64 0))) := ⟨(below_set (below_set HB.out GEg4.out) GEg4.out)⟩
  clear BKg4 HB; have BKg4 := n_; have HB := b_; clear n_ b_
  clear hcg1_0 hfg1_0
  clear hcg1_1 hfg1_1
  clear hcg2_0 hfg2_0
  clear hcg2_1 hfg2_1
  clear hcg3_0 hfg3_0
  clear hcg3_1 hfg3_1
  clear hcg4_0 hfg4_0
  clear hcg4_1 hfg4_1
  generalize ((W12.setCell ⟨g4, 0, none⟩ (.int .i64 0)).setCell ⟨g4, 1, none⟩ (.int .i64 0)) = W13 at *
  have hcg1_0 : W13.cell? ⟨g1, 0, none⟩ = some (.int .i64 a) := (blk_cell BKg1.out 0).trans rfl
  have hfg1_0 := blk_frozen BKg1.out 0
  have hcg1_1 : W13.cell? ⟨g1, 1, none⟩ = some (.int .i64 b) := (blk_cell BKg1.out 1).trans rfl
  have hfg1_1 := blk_frozen BKg1.out 1
  have hcg2_0 : W13.cell? ⟨g2, 0, none⟩ = some (.int .i64 c) := (blk_cell BKg2.out 0).trans rfl
  have hfg2_0 := blk_frozen BKg2.out 0
  have hcg2_1 : W13.cell? ⟨g2, 1, none⟩ = some (.int .i64 d) := (blk_cell BKg2.out 1).trans rfl
  have hfg2_1 := blk_frozen BKg2.out 1
  have hcg3_0 : W13.cell? ⟨g3, 0, none⟩ = some (.int .i64 (midI a c)) := (blk_cell BKg3.out 0).trans rfl
  have hfg3_0 := blk_frozen BKg3.out 0
  have hcg3_1 : W13.cell? ⟨g3, 1, none⟩ = some (.int .i64 (midI b d)) := (blk_cell BKg3.out 1).trans rfl
  have hfg3_1 := blk_frozen BKg3.out 1
  have hcg4_0 : W13.cell? ⟨g4, 0, none⟩ = some (.int .i64 0) := (blk_cell BKg4.out 0).trans rfl
  have hfg4_0 := blk_frozen BKg4.out 0
  have hcg4_1 : W13.cell? ⟨g4, 1, none⟩ = some (.int .i64 0) := (blk_cell BKg4.out 1).trans rfl
  have hfg4_1 := blk_frozen BKg4.out 1
  ((with_reducible refine (vclamp_no _ _ _ _ hneg).mono ?_); rintro e_ W14 ⟨rfl, hb_⟩)
  have n_ := Aside0.mk (blk_below BKg1.out hb_); clear BKg1; have BKg1 := n_; clear n_
  clear hcg1_0 hfg1_0
  clear hcg1_1 hfg1_1
  have n_ := Aside0.mk (blk_below BKg2.out hb_); clear BKg2; have BKg2 := n_; clear n_
  clear hcg2_0 hfg2_0
  clear hcg2_1 hfg2_1
  have n_ := Aside0.mk (blk_below BKg3.out hb_); clear BKg3; have BKg3 := n_; clear n_
  clear hcg3_0 hfg3_0
  clear hcg3_1 hfg3_1
  have n_ := Aside0.mk (blk_below BKg4.out hb_); clear BKg4; have BKg4 := n_; clear n_
  clear hcg4_0 hfg4_0
  clear hcg4_1 hfg4_1
  have n_ := Aside0.mk (below_step HB.out hb_); clear HB; have HB := n_; clear n_
  clear hb_
  have hcg1_0 : W14.cell? ⟨g1, 0, none⟩ = some (.int .i64 a) := (blk_cell BKg1.out 0).trans rfl
  have hfg1_0 := blk_frozen BKg1.out 0
  have hcg1_1 : W14.cell? ⟨g1, 1, none⟩ = some (.int .i64 b) := (blk_cell BKg1.out 1).trans rfl
  have hfg1_1 := blk_frozen BKg1.out 1
  have hcg2_0 : W14.cell? ⟨g2, 0, none⟩ = some (.int .i64 c) := (blk_cell BKg2.out 0).trans rfl
  have hfg2_0 := blk_frozen BKg2.out 0
  have hcg2_1 : W14.cell? ⟨g2, 1, none⟩ = some (.int .i64 d) := (blk_cell BKg2.out 1).trans rfl
  have hfg2_1 := blk_frozen BKg2.out 1
  have hcg3_0 : W14.cell? ⟨g3, 0, none⟩ = some (.int .i64 (midI a c)) := (blk_cell BKg3.out 0).trans rfl
  have hfg3_0 := blk_frozen BKg3.out 0
  have hcg3_1 : W14.cell? ⟨g3, 1, none⟩ = some (.int .i64 (midI b d)) := (blk_cell BKg3.out 1).trans rfl
  have hfg3_1 := blk_frozen BKg3.out 1
  have hcg4_0 : W14.cell? ⟨g4, 0, none⟩ = some (.int .i64 0) := (blk_cell BKg4.out 0).trans rfl
  have hfg4_0 := blk_frozen BKg4.out 0
  have hcg4_1 : W14.cell? ⟨g4, 1, none⟩ = some (.int .i64 0) := (blk_cell BKg4.out 1).trans rfl
  have hfg4_1 := blk_frozen BKg4.out 1
  go_wp2_with (first | ((with_reducible refine gate_dst (N := 17) rfl ?_); refine box_event ?hg (N := 17) ?hd (cs := #[.int .i64 0, .int .i64 0]) (t := 23) ?hr ?_; (case hd => rfl); (case hg => rfl); (case hr => first | (go_simp; done) | (go_simp; rfl)); intro g5 hg_ W15 hbox_ hb_; have GEg5 := Aside0.mk ((by rw [hg_]; exact (below_size HB.out)) : w.heap.size ≤ g5); have NBg1_g5 : g1 ≠ g5 := (by rw [hg_]; exact Nat.ne_of_lt (blk_lt BKg1.out)); have NBg5_g1 : g5 ≠ g1 := Ne.symm NBg1_g5; have NBg2_g5 : g2 ≠ g5 := (by rw [hg_]; exact Nat.ne_of_lt (blk_lt BKg2.out)); have NBg5_g2 : g5 ≠ g2 := Ne.symm NBg2_g5; have NBg3_g5 : g3 ≠ g5 := (by rw [hg_]; exact Nat.ne_of_lt (blk_lt BKg3.out)); have NBg5_g3 : g5 ≠ g3 := Ne.symm NBg3_g5; have NBg4_g5 : g4 ≠ g5 := (by rw [hg_]; exact Nat.ne_of_lt (blk_lt BKg4.out)); have NBg5_g4 : g5 ≠ g4 := Ne.symm NBg4_g5; clear hg_; have n_ := Aside0.mk (blk_below BKg1.out hb_); clear BKg1; have BKg1 := n_; clear n_; clear hcg1_0 hfg1_0; clear hcg1_1 hfg1_1; have n_ := Aside0.mk (blk_below BKg2.out hb_); clear BKg2; have BKg2 := n_; clear n_; clear hcg2_0 hfg2_0; clear hcg2_1 hfg2_1; have n_ := Aside0.mk (blk_below BKg3.out hb_); clear BKg3; have BKg3 := n_; clear n_; clear hcg3_0 hfg3_0; clear hcg3_1 hfg3_1; have n_ := Aside0.mk (blk_below BKg4.out hb_); clear BKg4; have BKg4 := n_; clear n_; clear hcg4_0 hfg4_0; clear hcg4_1 hfg4_1; have n_ := Aside0.mk (below_step HB.out hb_); clear HB; have HB := n_; clear n_; have BKg5 := Aside0.mk hbox_; clear hbox_ hb_; have hcg1_0 : W15.cell? ⟨g1, 0, none⟩ = some (.int .i64 a) := (blk_cell BKg1.out 0).trans rfl; have hfg1_0 := blk_frozen BKg1.out 0; have hcg1_1 : W15.cell? ⟨g1, 1, none⟩ = some (.int .i64 b) := (blk_cell BKg1.out 1).trans rfl; have hfg1_1 := blk_frozen BKg1.out 1; have hcg2_0 : W15.cell? ⟨g2, 0, none⟩ = some (.int .i64 c) := (blk_cell BKg2.out 0).trans rfl; have hfg2_0 := blk_frozen BKg2.out 0; have hcg2_1 : W15.cell? ⟨g2, 1, none⟩ = some (.int .i64 d) := (blk_cell BKg2.out 1).trans rfl; have hfg2_1 := blk_frozen BKg2.out 1; have hcg3_0 : W15.cell? ⟨g3, 0, none⟩ = some (.int .i64 (midI a c)) := (blk_cell BKg3.out 0).trans rfl; have hfg3_0 := blk_frozen BKg3.out 0; have hcg3_1 : W15.cell? ⟨g3, 1, none⟩ = some (.int .i64 (midI b d)) := (blk_cell BKg3.out 1).trans rfl; have hfg3_1 := blk_frozen BKg3.out 1; have hcg4_0 : W15.cell? ⟨g4, 0, none⟩ = some (.int .i64 0) := (blk_cell BKg4.out 0).trans rfl; have hfg4_0 := blk_frozen BKg4.out 0; have hcg4_1 : W15.cell? ⟨g4, 1, none⟩ = some (.int .i64 0) := (blk_cell BKg4.out 1).trans rfl; have hfg4_1 := blk_frozen BKg4.out 1; have hcg5_0 : W15.cell? ⟨g5, 0, none⟩ = some (.int .i64 0) := (blk_cell BKg5.out 0).trans rfl; have hfg5_0 := blk_frozen BKg5.out 0; have hcg5_1 : W15.cell? ⟨g5, 1, none⟩ = some (.int .i64 0) := (blk_cell BKg5.out 1).trans rfl; have hfg5_1 := blk_frozen BKg5.out 1))
  have n_ : Aside0 (((W15.setCell ⟨g5, 0, none⟩ (.int .i64 0)).setCell ⟨g5, 1, none⟩ (.int .i64 0)).heap[g5]? = some (.cells #[.int .i64 0, .int .i64 0] 23 (0, 0))) := ⟨by refine blk_put (cs := #[.int .i64 0, .int .i64 0]) ?_ 1 _ rfl; refine blk_put (cs := #[.int .i64 0, .int .i64 0]) ?_ 0 _ rfl; exact BKg5.out⟩
  have m_ : Aside0 (((W15.setCell ⟨g5, 0, none⟩ (.int .i64 0)).setCell ⟨g5, 1, none⟩ (.int .i64 0)).heap[g1]? = some (.cells #[.int .i64 a, .int .i64 b] 23 (0, 0))) := ⟨(blk_far (blk_far BKg1.out NBg1_g5 _) NBg1_g5 _)⟩
  clear BKg1; have BKg1 := m_; clear m_
  have m_ : Aside0 (((W15.setCell ⟨g5, 0, none⟩ (.int .i64 0)).setCell ⟨g5, 1, none⟩ (.int .i64 0)).heap[g2]? = some (.cells #[.int .i64 c, .int .i64 d] 23 (0, 0))) := ⟨(blk_far (blk_far BKg2.out NBg2_g5 _) NBg2_g5 _)⟩
  clear BKg2; have BKg2 := m_; clear m_
  have m_ : Aside0 (((W15.setCell ⟨g5, 0, none⟩ (.int .i64 0)).setCell ⟨g5, 1, none⟩ (.int .i64 0)).heap[g3]? = some (.cells #[.int .i64 (midI a c), .int .i64 (midI b d)] 23 (0, 0))) := ⟨(blk_far (blk_far BKg3.out NBg3_g5 _) NBg3_g5 _)⟩
  clear BKg3; have BKg3 := m_; clear m_
  have m_ : Aside0 (((W15.setCell ⟨g5, 0, none⟩ (.int .i64 0)).setCell ⟨g5, 1, none⟩ (.int .i64 0)).heap[g4]? = some (.cells #[.int .i64 0, .int .i64 0] 23 (0, 0))) := ⟨(blk_far (blk_far BKg4.out NBg4_g5 _) NBg4_g5 _)⟩
  clear BKg4; have BKg4 := m_; clear m_
  have b_ : Aside0 (Below w.heap.size w ((W15.setCell ⟨g5, 0, none⟩ (.int .i64 0)).setCell ⟨g5, 1, none⟩ (.int .i64 0))) := ⟨(below_set (below_set HB.out GEg5.out) GEg5.out)⟩
  clear BKg5 HB; have BKg5 := n_; have HB := b_; clear n_ b_
  clear hcg1_0 hfg1_0
  clear hcg1_1 hfg1_1
  clear hcg2_0 hfg2_0
  clear hcg2_1 hfg2_1
  clear hcg3_0 hfg3_0
  clear hcg3_1 hfg3_1
  clear hcg4_0 hfg4_0
  clear hcg4_1 hfg4_1
  clear hcg5_0 hfg5_0
  clear hcg5_1 hfg5_1
  generalize ((W15.setCell ⟨g5, 0, none⟩ (.int .i64 0)).setCell ⟨g5, 1, none⟩ (.int .i64 0)) = W16 at *
  have hcg1_0 : W16.cell? ⟨g1, 0, none⟩ = some (.int .i64 a) := (blk_cell BKg1.out 0).trans rfl
  have hfg1_0 := blk_frozen BKg1.out 0
  have hcg1_1 : W16.cell? ⟨g1, 1, none⟩ = some (.int .i64 b) := (blk_cell BKg1.out 1).trans rfl
  have hfg1_1 := blk_frozen BKg1.out 1
  have hcg2_0 : W16.cell? ⟨g2, 0, none⟩ = some (.int .i64 c) := (blk_cell BKg2.out 0).trans rfl
  have hfg2_0 := blk_frozen BKg2.out 0
  have hcg2_1 : W16.cell? ⟨g2, 1, none⟩ = some (.int .i64 d) := (blk_cell BKg2.out 1).trans rfl
  have hfg2_1 := blk_frozen BKg2.out 1
  have hcg3_0 : W16.cell? ⟨g3, 0, none⟩ = some (.int .i64 (midI a c)) := (blk_cell BKg3.out 0).trans rfl
  have hfg3_0 := blk_frozen BKg3.out 0
  have hcg3_1 : W16.cell? ⟨g3, 1, none⟩ = some (.int .i64 (midI b d)) := (blk_cell BKg3.out 1).trans rfl
  have hfg3_1 := blk_frozen BKg3.out 1
  have hcg4_0 : W16.cell? ⟨g4, 0, none⟩ = some (.int .i64 0) := (blk_cell BKg4.out 0).trans rfl
  have hfg4_0 := blk_frozen BKg4.out 0
  have hcg4_1 : W16.cell? ⟨g4, 1, none⟩ = some (.int .i64 0) := (blk_cell BKg4.out 1).trans rfl
  have hfg4_1 := blk_frozen BKg4.out 1
  have hcg5_0 : W16.cell? ⟨g5, 0, none⟩ = some (.int .i64 0) := (blk_cell BKg5.out 0).trans rfl
  have hfg5_0 := blk_frozen BKg5.out 0
  have hcg5_1 : W16.cell? ⟨g5, 1, none⟩ = some (.int .i64 0) := (blk_cell BKg5.out 1).trans rfl
  have hfg5_1 := blk_frozen BKg5.out 1
  go_outline
  ((with_reducible refine (vnear_calls _ _ _ _ _ _ ha hb ha hb (mx_I64 hr hz)).mono ?_); rintro e_ W17 ⟨rfl, hb_⟩)
  have n_ := Aside0.mk (blk_below BKg1.out hb_); clear BKg1; have BKg1 := n_; clear n_
  clear hcg1_0 hfg1_0
  clear hcg1_1 hfg1_1
  have n_ := Aside0.mk (blk_below BKg2.out hb_); clear BKg2; have BKg2 := n_; clear n_
  clear hcg2_0 hfg2_0
  clear hcg2_1 hfg2_1
  have n_ := Aside0.mk (blk_below BKg3.out hb_); clear BKg3; have BKg3 := n_; clear n_
  clear hcg3_0 hfg3_0
  clear hcg3_1 hfg3_1
  have n_ := Aside0.mk (blk_below BKg4.out hb_); clear BKg4; have BKg4 := n_; clear n_
  clear hcg4_0 hfg4_0
  clear hcg4_1 hfg4_1
  have n_ := Aside0.mk (blk_below BKg5.out hb_); clear BKg5; have BKg5 := n_; clear n_
  clear hcg5_0 hfg5_0
  clear hcg5_1 hfg5_1
  have n_ := Aside0.mk (below_step HB.out hb_); clear HB; have HB := n_; clear n_
  clear hb_
  have hcg1_0 : W17.cell? ⟨g1, 0, none⟩ = some (.int .i64 a) := (blk_cell BKg1.out 0).trans rfl
  have hfg1_0 := blk_frozen BKg1.out 0
  have hcg1_1 : W17.cell? ⟨g1, 1, none⟩ = some (.int .i64 b) := (blk_cell BKg1.out 1).trans rfl
  have hfg1_1 := blk_frozen BKg1.out 1
  have hcg2_0 : W17.cell? ⟨g2, 0, none⟩ = some (.int .i64 c) := (blk_cell BKg2.out 0).trans rfl
  have hfg2_0 := blk_frozen BKg2.out 0
  have hcg2_1 : W17.cell? ⟨g2, 1, none⟩ = some (.int .i64 d) := (blk_cell BKg2.out 1).trans rfl
  have hfg2_1 := blk_frozen BKg2.out 1
  have hcg3_0 : W17.cell? ⟨g3, 0, none⟩ = some (.int .i64 (midI a c)) := (blk_cell BKg3.out 0).trans rfl
  have hfg3_0 := blk_frozen BKg3.out 0
  have hcg3_1 : W17.cell? ⟨g3, 1, none⟩ = some (.int .i64 (midI b d)) := (blk_cell BKg3.out 1).trans rfl
  have hfg3_1 := blk_frozen BKg3.out 1
  have hcg4_0 : W17.cell? ⟨g4, 0, none⟩ = some (.int .i64 0) := (blk_cell BKg4.out 0).trans rfl
  have hfg4_0 := blk_frozen BKg4.out 0
  have hcg4_1 : W17.cell? ⟨g4, 1, none⟩ = some (.int .i64 0) := (blk_cell BKg4.out 1).trans rfl
  have hfg4_1 := blk_frozen BKg4.out 1
  have hcg5_0 : W17.cell? ⟨g5, 0, none⟩ = some (.int .i64 0) := (blk_cell BKg5.out 0).trans rfl
  have hfg5_0 := blk_frozen BKg5.out 0
  have hcg5_1 : W17.cell? ⟨g5, 1, none⟩ = some (.int .i64 0) := (blk_cell BKg5.out 1).trans rfl
  have hfg5_1 := blk_frozen BKg5.out 1
  go_wp2
  go_ret
  exact ⟨rfl, (by repeat (first | (with_reducible first | exact HB.out | apply below_alloc | apply pw_below_drewN | apply below_drew1) | exact HB.out))⟩
set_option maxHeartbeats 4000000 in
set_option maxRecDepth 100000 in
theorem vecnear_2 (a b c d r more : Int) (w : World) (ha : I64 a) (hb : I64 b) (hc : I64 c) (hd : I64 d) (hr : I64 r) (hm : I64 more) (hpos : 0 ≤ r) (hp : nearB a b c d r = true) :
    Calls Try.prog 4 #[.agg #[.int .i64 a, .int .i64 b], .agg #[.int .i64 c, .int .i64 d], .int .i64 r, .int .i64 more] w
      fun e w' => e = .returned (.bool true) ∧ Below w.heap.size w w' := by
  have HB := Aside0.mk (Below.refl w.heap.size w)
  have r1 := hr.1
  have r2 := hr.2
  have h2 : nearB c d a b r = true := (near_comm a b c d r).trans hp
  have h3 : nearB a b c d (mx r more) = true := near_wide hp (le_mx _ _)
  have m1 := mid_ge ha hc
  have m2 := mid_le ha hc
  have m3 := mid_ge hb hd
  have m4 := mid_le hb hd
  have m5 := mid_comm ha hc
  have m6 := mid_comm hb hd
  have n1 : nearB a b a b (mx r 0) = true := near_self a b _ (le_mx' _ _)
  have hz : I64 0 := ⟨by omega, by omega⟩
  have k1 := clamp_clamp a r hpos
  have k2 := clamp_clamp b r hpos
  have k3 := clamp_near a b r hpos
  have hca := clamp_I64 (m := r) ha hpos r2
  have hcb := clamp_I64 (m := r) hb hpos r2
  go_enter Try.func4, Try.ntmps4
  go_wp2_with (first | ((with_reducible refine gate_dst (N := 4) rfl ?_); refine box_event ?hg (N := 4) ?hd (cs := #[.int .i64 a, .int .i64 b]) (t := 23) ?hr ?_; (case hd => rfl); (case hg => rfl); (case hr => first | (go_simp; done) | (go_simp; rfl)); intro g1 hg_ W1 hbox_ hb_; have GEg1 := Aside0.mk ((by rw [hg_]; exact (below_size HB.out)) : w.heap.size ≤ g1); clear hg_; have n_ := Aside0.mk (below_step HB.out hb_); clear HB; have HB := n_; clear n_; have BKg1 := Aside0.mk hbox_; clear hbox_ hb_; have hcg1_0 : W1.cell? ⟨g1, 0, none⟩ = some (.int .i64 a) := (blk_cell BKg1.out 0).trans rfl; have hfg1_0 := blk_frozen BKg1.out 0; have hcg1_1 : W1.cell? ⟨g1, 1, none⟩ = some (.int .i64 b) := (blk_cell BKg1.out 1).trans rfl; have hfg1_1 := blk_frozen BKg1.out 1) | ((with_reducible refine gate_dst (N := 5) rfl ?_); refine box_event ?hg (N := 5) ?hd (cs := #[.int .i64 c, .int .i64 d]) (t := 23) ?hr ?_; (case hd => rfl); (case hg => rfl); (case hr => first | (go_simp; done) | (go_simp; rfl)); intro g2 hg_ W2 hbox_ hb_; have GEg2 := Aside0.mk ((by rw [hg_]; exact (below_size HB.out)) : w.heap.size ≤ g2); have NBg1_g2 : g1 ≠ g2 := (by rw [hg_]; exact Nat.ne_of_lt (blk_lt BKg1.out)); have NBg2_g1 : g2 ≠ g1 := Ne.symm NBg1_g2; clear hg_; have n_ := Aside0.mk (blk_below BKg1.out hb_); clear BKg1; have BKg1 := n_; clear n_; clear hcg1_0 hfg1_0; clear hcg1_1 hfg1_1; have n_ := Aside0.mk (below_step HB.out hb_); clear HB; have HB := n_; clear n_; have BKg2 := Aside0.mk hbox_; clear hbox_ hb_; have hcg1_0 : W2.cell? ⟨g1, 0, none⟩ = some (.int .i64 a) := (blk_cell BKg1.out 0).trans rfl; have hfg1_0 := blk_frozen BKg1.out 0; have hcg1_1 : W2.cell? ⟨g1, 1, none⟩ = some (.int .i64 b) := (blk_cell BKg1.out 1).trans rfl; have hfg1_1 := blk_frozen BKg1.out 1; have hcg2_0 : W2.cell? ⟨g2, 0, none⟩ = some (.int .i64 c) := (blk_cell BKg2.out 0).trans rfl; have hfg2_0 := blk_frozen BKg2.out 0; have hcg2_1 : W2.cell? ⟨g2, 1, none⟩ = some (.int .i64 d) := (blk_cell BKg2.out 1).trans rfl; have hfg2_1 := blk_frozen BKg2.out 1))
  ((with_reducible refine (awake_calls _).mono ?_); rintro e_ W3 ⟨rfl, hb_⟩)
  have n_ := Aside0.mk (blk_below BKg1.out hb_); clear BKg1; have BKg1 := n_; clear n_
  clear hcg1_0 hfg1_0
  clear hcg1_1 hfg1_1
  have n_ := Aside0.mk (blk_below BKg2.out hb_); clear BKg2; have BKg2 := n_; clear n_
  clear hcg2_0 hfg2_0
  clear hcg2_1 hfg2_1
  have n_ := Aside0.mk (below_step HB.out hb_); clear HB; have HB := n_; clear n_
  clear hb_
  have hcg1_0 : W3.cell? ⟨g1, 0, none⟩ = some (.int .i64 a) := (blk_cell BKg1.out 0).trans rfl
  have hfg1_0 := blk_frozen BKg1.out 0
  have hcg1_1 : W3.cell? ⟨g1, 1, none⟩ = some (.int .i64 b) := (blk_cell BKg1.out 1).trans rfl
  have hfg1_1 := blk_frozen BKg1.out 1
  have hcg2_0 : W3.cell? ⟨g2, 0, none⟩ = some (.int .i64 c) := (blk_cell BKg2.out 0).trans rfl
  have hfg2_0 := blk_frozen BKg2.out 0
  have hcg2_1 : W3.cell? ⟨g2, 1, none⟩ = some (.int .i64 d) := (blk_cell BKg2.out 1).trans rfl
  have hfg2_1 := blk_frozen BKg2.out 1
  go_wp2_with fail
  ((with_reducible refine (vnear_calls _ _ _ _ _ _ ha hb hc hd hr).mono ?_); rintro e_ W4 ⟨rfl, hb_⟩)
  have n_ := Aside0.mk (blk_below BKg1.out hb_); clear BKg1; have BKg1 := n_; clear n_
  clear hcg1_0 hfg1_0
  clear hcg1_1 hfg1_1
  have n_ := Aside0.mk (blk_below BKg2.out hb_); clear BKg2; have BKg2 := n_; clear n_
  clear hcg2_0 hfg2_0
  clear hcg2_1 hfg2_1
  have n_ := Aside0.mk (below_step HB.out hb_); clear HB; have HB := n_; clear n_
  clear hb_
  have hcg1_0 : W4.cell? ⟨g1, 0, none⟩ = some (.int .i64 a) := (blk_cell BKg1.out 0).trans rfl
  have hfg1_0 := blk_frozen BKg1.out 0
  have hcg1_1 : W4.cell? ⟨g1, 1, none⟩ = some (.int .i64 b) := (blk_cell BKg1.out 1).trans rfl
  have hfg1_1 := blk_frozen BKg1.out 1
  have hcg2_0 : W4.cell? ⟨g2, 0, none⟩ = some (.int .i64 c) := (blk_cell BKg2.out 0).trans rfl
  have hfg2_0 := blk_frozen BKg2.out 0
  have hcg2_1 : W4.cell? ⟨g2, 1, none⟩ = some (.int .i64 d) := (blk_cell BKg2.out 1).trans rfl
  have hfg2_1 := blk_frozen BKg2.out 1
  go_wp2_with fail
  ((with_reducible refine (vnear_calls _ _ _ _ _ _ hc hd ha hb hr).mono ?_); rintro e_ W5 ⟨rfl, hb_⟩)
  have n_ := Aside0.mk (blk_below BKg1.out hb_); clear BKg1; have BKg1 := n_; clear n_
  clear hcg1_0 hfg1_0
  clear hcg1_1 hfg1_1
  have n_ := Aside0.mk (blk_below BKg2.out hb_); clear BKg2; have BKg2 := n_; clear n_
  clear hcg2_0 hfg2_0
  clear hcg2_1 hfg2_1
  have n_ := Aside0.mk (below_step HB.out hb_); clear HB; have HB := n_; clear n_
  clear hb_
  have hcg1_0 : W5.cell? ⟨g1, 0, none⟩ = some (.int .i64 a) := (blk_cell BKg1.out 0).trans rfl
  have hfg1_0 := blk_frozen BKg1.out 0
  have hcg1_1 : W5.cell? ⟨g1, 1, none⟩ = some (.int .i64 b) := (blk_cell BKg1.out 1).trans rfl
  have hfg1_1 := blk_frozen BKg1.out 1
  have hcg2_0 : W5.cell? ⟨g2, 0, none⟩ = some (.int .i64 c) := (blk_cell BKg2.out 0).trans rfl
  have hfg2_0 := blk_frozen BKg2.out 0
  have hcg2_1 : W5.cell? ⟨g2, 1, none⟩ = some (.int .i64 d) := (blk_cell BKg2.out 1).trans rfl
  have hfg2_1 := blk_frozen BKg2.out 1
  go_wp2_with fail
  ((with_reducible refine (vnear_calls _ _ _ _ _ _ ha hb hc hd (mx_I64 hr hm)).mono ?_); rintro e_ W6 ⟨rfl, hb_⟩)
  have n_ := Aside0.mk (blk_below BKg1.out hb_); clear BKg1; have BKg1 := n_; clear n_
  clear hcg1_0 hfg1_0
  clear hcg1_1 hfg1_1
  have n_ := Aside0.mk (blk_below BKg2.out hb_); clear BKg2; have BKg2 := n_; clear n_
  clear hcg2_0 hfg2_0
  clear hcg2_1 hfg2_1
  have n_ := Aside0.mk (below_step HB.out hb_); clear HB; have HB := n_; clear n_
  clear hb_
  have hcg1_0 : W6.cell? ⟨g1, 0, none⟩ = some (.int .i64 a) := (blk_cell BKg1.out 0).trans rfl
  have hfg1_0 := blk_frozen BKg1.out 0
  have hcg1_1 : W6.cell? ⟨g1, 1, none⟩ = some (.int .i64 b) := (blk_cell BKg1.out 1).trans rfl
  have hfg1_1 := blk_frozen BKg1.out 1
  have hcg2_0 : W6.cell? ⟨g2, 0, none⟩ = some (.int .i64 c) := (blk_cell BKg2.out 0).trans rfl
  have hfg2_0 := blk_frozen BKg2.out 0
  have hcg2_1 : W6.cell? ⟨g2, 1, none⟩ = some (.int .i64 d) := (blk_cell BKg2.out 1).trans rfl
  have hfg2_1 := blk_frozen BKg2.out 1
  go_wp2_with fail
  ((with_reducible refine (vmean_calls _ _ _ _ _).mono ?_); rintro e_ W7 ⟨rfl, hb_⟩)
  have n_ := Aside0.mk (blk_below BKg1.out hb_); clear BKg1; have BKg1 := n_; clear n_
  clear hcg1_0 hfg1_0
  clear hcg1_1 hfg1_1
  have n_ := Aside0.mk (blk_below BKg2.out hb_); clear BKg2; have BKg2 := n_; clear n_
  clear hcg2_0 hfg2_0
  clear hcg2_1 hfg2_1
  have n_ := Aside0.mk (below_step HB.out hb_); clear HB; have HB := n_; clear n_
  clear hb_
  have hcg1_0 : W7.cell? ⟨g1, 0, none⟩ = some (.int .i64 a) := (blk_cell BKg1.out 0).trans rfl
  have hfg1_0 := blk_frozen BKg1.out 0
  have hcg1_1 : W7.cell? ⟨g1, 1, none⟩ = some (.int .i64 b) := (blk_cell BKg1.out 1).trans rfl
  have hfg1_1 := blk_frozen BKg1.out 1
  have hcg2_0 : W7.cell? ⟨g2, 0, none⟩ = some (.int .i64 c) := (blk_cell BKg2.out 0).trans rfl
  have hfg2_0 := blk_frozen BKg2.out 0
  have hcg2_1 : W7.cell? ⟨g2, 1, none⟩ = some (.int .i64 d) := (blk_cell BKg2.out 1).trans rfl
  have hfg2_1 := blk_frozen BKg2.out 1
  go_wp2_with (first | ((with_reducible refine gate_dst (N := 13) rfl ?_); refine box_event ?hg (N := 13) ?hd (cs := #[.int .i64 0, .int .i64 0]) (t := 23) ?hr ?_; (case hd => rfl); (case hg => rfl); (case hr => first | (go_simp; done) | (go_simp; rfl)); intro g3 hg_ W8 hbox_ hb_; have GEg3 := Aside0.mk ((by rw [hg_]; exact (below_size HB.out)) : w.heap.size ≤ g3); have NBg1_g3 : g1 ≠ g3 := (by rw [hg_]; exact Nat.ne_of_lt (blk_lt BKg1.out)); have NBg3_g1 : g3 ≠ g1 := Ne.symm NBg1_g3; have NBg2_g3 : g2 ≠ g3 := (by rw [hg_]; exact Nat.ne_of_lt (blk_lt BKg2.out)); have NBg3_g2 : g3 ≠ g2 := Ne.symm NBg2_g3; clear hg_; have n_ := Aside0.mk (blk_below BKg1.out hb_); clear BKg1; have BKg1 := n_; clear n_; clear hcg1_0 hfg1_0; clear hcg1_1 hfg1_1; have n_ := Aside0.mk (blk_below BKg2.out hb_); clear BKg2; have BKg2 := n_; clear n_; clear hcg2_0 hfg2_0; clear hcg2_1 hfg2_1; have n_ := Aside0.mk (below_step HB.out hb_); clear HB; have HB := n_; clear n_; have BKg3 := Aside0.mk hbox_; clear hbox_ hb_; have hcg1_0 : W8.cell? ⟨g1, 0, none⟩ = some (.int .i64 a) := (blk_cell BKg1.out 0).trans rfl; have hfg1_0 := blk_frozen BKg1.out 0; have hcg1_1 : W8.cell? ⟨g1, 1, none⟩ = some (.int .i64 b) := (blk_cell BKg1.out 1).trans rfl; have hfg1_1 := blk_frozen BKg1.out 1; have hcg2_0 : W8.cell? ⟨g2, 0, none⟩ = some (.int .i64 c) := (blk_cell BKg2.out 0).trans rfl; have hfg2_0 := blk_frozen BKg2.out 0; have hcg2_1 : W8.cell? ⟨g2, 1, none⟩ = some (.int .i64 d) := (blk_cell BKg2.out 1).trans rfl; have hfg2_1 := blk_frozen BKg2.out 1; have hcg3_0 : W8.cell? ⟨g3, 0, none⟩ = some (.int .i64 0) := (blk_cell BKg3.out 0).trans rfl; have hfg3_0 := blk_frozen BKg3.out 0; have hcg3_1 : W8.cell? ⟨g3, 1, none⟩ = some (.int .i64 0) := (blk_cell BKg3.out 1).trans rfl; have hfg3_1 := blk_frozen BKg3.out 1))
  have n_ : Aside0 (((W8.setCell ⟨g3, 0, none⟩ (.int .i64 (midI a c))).setCell ⟨g3, 1, none⟩ (.int .i64 (midI b d))).heap[g3]? = some (.cells #[.int .i64 (midI a c), .int .i64 (midI b d)] 23 (0, 0))) := ⟨by refine blk_put (cs := #[.int .i64 (midI a c), .int .i64 0]) ?_ 1 _ rfl; refine blk_put (cs := #[.int .i64 0, .int .i64 0]) ?_ 0 _ rfl; exact BKg3.out⟩
  have m_ : Aside0 (((W8.setCell ⟨g3, 0, none⟩ (.int .i64 (midI a c))).setCell ⟨g3, 1, none⟩ (.int .i64 (midI b d))).heap[g1]? = some (.cells #[.int .i64 a, .int .i64 b] 23 (0, 0))) := ⟨(blk_far (blk_far BKg1.out NBg1_g3 _) NBg1_g3 _)⟩
  clear BKg1; have BKg1 := m_; clear m_
  have m_ : Aside0 (((W8.setCell ⟨g3, 0, none⟩ (.int .i64 (midI a c))).setCell ⟨g3, 1, none⟩ (.int .i64 (midI b d))).heap[g2]? = some (.cells #[.int .i64 c, .int .i64 d] 23 (0, 0))) := ⟨(blk_far (blk_far BKg2.out NBg2_g3 _) NBg2_g3 _)⟩
  clear BKg2; have BKg2 := m_; clear m_
  have b_ : Aside0 (Below w.heap.size w ((W8.setCell ⟨g3, 0, none⟩ (.int .i64 (midI a c))).setCell ⟨g3, 1, none⟩ (.int .i64 (midI b d)))) := ⟨(below_set (below_set HB.out GEg3.out) GEg3.out)⟩
  clear BKg3 HB; have BKg3 := n_; have HB := b_; clear n_ b_
  clear hcg1_0 hfg1_0
  clear hcg1_1 hfg1_1
  clear hcg2_0 hfg2_0
  clear hcg2_1 hfg2_1
  clear hcg3_0 hfg3_0
  clear hcg3_1 hfg3_1
  generalize ((W8.setCell ⟨g3, 0, none⟩ (.int .i64 (midI a c))).setCell ⟨g3, 1, none⟩ (.int .i64 (midI b d))) = W9 at *
  have hcg1_0 : W9.cell? ⟨g1, 0, none⟩ = some (.int .i64 a) := (blk_cell BKg1.out 0).trans rfl
  have hfg1_0 := blk_frozen BKg1.out 0
  have hcg1_1 : W9.cell? ⟨g1, 1, none⟩ = some (.int .i64 b) := (blk_cell BKg1.out 1).trans rfl
  have hfg1_1 := blk_frozen BKg1.out 1
  have hcg2_0 : W9.cell? ⟨g2, 0, none⟩ = some (.int .i64 c) := (blk_cell BKg2.out 0).trans rfl
  have hfg2_0 := blk_frozen BKg2.out 0
  have hcg2_1 : W9.cell? ⟨g2, 1, none⟩ = some (.int .i64 d) := (blk_cell BKg2.out 1).trans rfl
  have hfg2_1 := blk_frozen BKg2.out 1
  have hcg3_0 : W9.cell? ⟨g3, 0, none⟩ = some (.int .i64 (midI a c)) := (blk_cell BKg3.out 0).trans rfl
  have hfg3_0 := blk_frozen BKg3.out 0
  have hcg3_1 : W9.cell? ⟨g3, 1, none⟩ = some (.int .i64 (midI b d)) := (blk_cell BKg3.out 1).trans rfl
  have hfg3_1 := blk_frozen BKg3.out 1
  have hqg1_0 : ∀ u : Aft W9, u.w.cell? ⟨g1, 0, none⟩ = some (.int .i64 a) := fun u => (blk_cell (blk_below BKg1.out u.below) 0).trans rfl
  have hqg1_1 : ∀ u : Aft W9, u.w.cell? ⟨g1, 1, none⟩ = some (.int .i64 b) := fun u => (blk_cell (blk_below BKg1.out u.below) 1).trans rfl
  have hqg2_0 : ∀ u : Aft W9, u.w.cell? ⟨g2, 0, none⟩ = some (.int .i64 c) := fun u => (blk_cell (blk_below BKg2.out u.below) 0).trans rfl
  have hqg2_1 : ∀ u : Aft W9, u.w.cell? ⟨g2, 1, none⟩ = some (.int .i64 d) := fun u => (blk_cell (blk_below BKg2.out u.below) 1).trans rfl
  have hqg3_0 : ∀ u : Aft W9, u.w.cell? ⟨g3, 0, none⟩ = some (.int .i64 (midI a c)) := fun u => (blk_cell (blk_below BKg3.out u.below) 0).trans rfl
  have hqg3_1 : ∀ u : Aft W9, u.w.cell? ⟨g3, 1, none⟩ = some (.int .i64 (midI b d)) := fun u => (blk_cell (blk_below BKg3.out u.below) 1).trans rfl
  refine wp_region_aft (by kernel_rfl) (by kernel_rfl) ?_
  repeat (go_big_quiet_step (first | (go_at_call 13; refine aft_call (fun w => vmean_calls _ _ _ _ w))))
  refine wpQuiet_nil ?_
  intro W10 hb_
  clear hqg1_0
  clear hqg1_1
  clear hqg2_0
  clear hqg2_1
  clear hqg3_0
  clear hqg3_1
  have n_ := Aside0.mk (blk_below BKg1.out hb_); clear BKg1; have BKg1 := n_; clear n_
  clear hcg1_0 hfg1_0
  clear hcg1_1 hfg1_1
  have n_ := Aside0.mk (blk_below BKg2.out hb_); clear BKg2; have BKg2 := n_; clear n_
  clear hcg2_0 hfg2_0
  clear hcg2_1 hfg2_1
  have n_ := Aside0.mk (blk_below BKg3.out hb_); clear BKg3; have BKg3 := n_; clear n_
  clear hcg3_0 hfg3_0
  clear hcg3_1 hfg3_1
  have n_ := Aside0.mk (below_step HB.out hb_); clear HB; have HB := n_; clear n_
  clear hb_
  have hcg1_0 : W10.cell? ⟨g1, 0, none⟩ = some (.int .i64 a) := (blk_cell BKg1.out 0).trans rfl
  have hfg1_0 := blk_frozen BKg1.out 0
  have hcg1_1 : W10.cell? ⟨g1, 1, none⟩ = some (.int .i64 b) := (blk_cell BKg1.out 1).trans rfl
  have hfg1_1 := blk_frozen BKg1.out 1
  have hcg2_0 : W10.cell? ⟨g2, 0, none⟩ = some (.int .i64 c) := (blk_cell BKg2.out 0).trans rfl
  have hfg2_0 := blk_frozen BKg2.out 0
  have hcg2_1 : W10.cell? ⟨g2, 1, none⟩ = some (.int .i64 d) := (blk_cell BKg2.out 1).trans rfl
  have hfg2_1 := blk_frozen BKg2.out 1
  have hcg3_0 : W10.cell? ⟨g3, 0, none⟩ = some (.int .i64 (midI a c)) := (blk_cell BKg3.out 0).trans rfl
  have hfg3_0 := blk_frozen BKg3.out 0
  have hcg3_1 : W10.cell? ⟨g3, 1, none⟩ = some (.int .i64 (midI b d)) := (blk_cell BKg3.out 1).trans rfl
  have hfg3_1 := blk_frozen BKg3.out 1
  go_wp2_with fail
  ((with_reducible refine (vclamp_yes _ _ _ _ hpos r2).mono ?_); rintro e_ W11 ⟨rfl, hb_⟩)
  have n_ := Aside0.mk (blk_below BKg1.out hb_); clear BKg1; have BKg1 := n_; clear n_
  clear hcg1_0 hfg1_0
  clear hcg1_1 hfg1_1
  have n_ := Aside0.mk (blk_below BKg2.out hb_); clear BKg2; have BKg2 := n_; clear n_
  clear hcg2_0 hfg2_0
  clear hcg2_1 hfg2_1
  have n_ := Aside0.mk (blk_below BKg3.out hb_); clear BKg3; have BKg3 := n_; clear n_
  clear hcg3_0 hfg3_0
  clear hcg3_1 hfg3_1
  have n_ := Aside0.mk (below_step HB.out hb_); clear HB; have HB := n_; clear n_
  clear hb_
  have hcg1_0 : W11.cell? ⟨g1, 0, none⟩ = some (.int .i64 a) := (blk_cell BKg1.out 0).trans rfl
  have hfg1_0 := blk_frozen BKg1.out 0
  have hcg1_1 : W11.cell? ⟨g1, 1, none⟩ = some (.int .i64 b) := (blk_cell BKg1.out 1).trans rfl
  have hfg1_1 := blk_frozen BKg1.out 1
  have hcg2_0 : W11.cell? ⟨g2, 0, none⟩ = some (.int .i64 c) := (blk_cell BKg2.out 0).trans rfl
  have hfg2_0 := blk_frozen BKg2.out 0
  have hcg2_1 : W11.cell? ⟨g2, 1, none⟩ = some (.int .i64 d) := (blk_cell BKg2.out 1).trans rfl
  have hfg2_1 := blk_frozen BKg2.out 1
  have hcg3_0 : W11.cell? ⟨g3, 0, none⟩ = some (.int .i64 (midI a c)) := (blk_cell BKg3.out 0).trans rfl
  have hfg3_0 := blk_frozen BKg3.out 0
  have hcg3_1 : W11.cell? ⟨g3, 1, none⟩ = some (.int .i64 (midI b d)) := (blk_cell BKg3.out 1).trans rfl
  have hfg3_1 := blk_frozen BKg3.out 1
  go_wp2_with (first | ((with_reducible refine gate_dst (N := 15) rfl ?_); refine box_event ?hg (N := 15) ?hd (cs := #[.int .i64 0, .int .i64 0]) (t := 23) ?hr ?_; (case hd => rfl); (case hg => rfl); (case hr => first | (go_simp; done) | (go_simp; rfl)); intro g4 hg_ W12 hbox_ hb_; have GEg4 := Aside0.mk ((by rw [hg_]; exact (below_size HB.out)) : w.heap.size ≤ g4); have NBg1_g4 : g1 ≠ g4 := (by rw [hg_]; exact Nat.ne_of_lt (blk_lt BKg1.out)); have NBg4_g1 : g4 ≠ g1 := Ne.symm NBg1_g4; have NBg2_g4 : g2 ≠ g4 := (by rw [hg_]; exact Nat.ne_of_lt (blk_lt BKg2.out)); have NBg4_g2 : g4 ≠ g2 := Ne.symm NBg2_g4; have NBg3_g4 : g3 ≠ g4 := (by rw [hg_]; exact Nat.ne_of_lt (blk_lt BKg3.out)); have NBg4_g3 : g4 ≠ g3 := Ne.symm NBg3_g4; clear hg_; have n_ := Aside0.mk (blk_below BKg1.out hb_); clear BKg1; have BKg1 := n_; clear n_; clear hcg1_0 hfg1_0; clear hcg1_1 hfg1_1; have n_ := Aside0.mk (blk_below BKg2.out hb_); clear BKg2; have BKg2 := n_; clear n_; clear hcg2_0 hfg2_0; clear hcg2_1 hfg2_1; have n_ := Aside0.mk (blk_below BKg3.out hb_); clear BKg3; have BKg3 := n_; clear n_; clear hcg3_0 hfg3_0; clear hcg3_1 hfg3_1; have n_ := Aside0.mk (below_step HB.out hb_); clear HB; have HB := n_; clear n_; have BKg4 := Aside0.mk hbox_; clear hbox_ hb_; have hcg1_0 : W12.cell? ⟨g1, 0, none⟩ = some (.int .i64 a) := (blk_cell BKg1.out 0).trans rfl; have hfg1_0 := blk_frozen BKg1.out 0; have hcg1_1 : W12.cell? ⟨g1, 1, none⟩ = some (.int .i64 b) := (blk_cell BKg1.out 1).trans rfl; have hfg1_1 := blk_frozen BKg1.out 1; have hcg2_0 : W12.cell? ⟨g2, 0, none⟩ = some (.int .i64 c) := (blk_cell BKg2.out 0).trans rfl; have hfg2_0 := blk_frozen BKg2.out 0; have hcg2_1 : W12.cell? ⟨g2, 1, none⟩ = some (.int .i64 d) := (blk_cell BKg2.out 1).trans rfl; have hfg2_1 := blk_frozen BKg2.out 1; have hcg3_0 : W12.cell? ⟨g3, 0, none⟩ = some (.int .i64 (midI a c)) := (blk_cell BKg3.out 0).trans rfl; have hfg3_0 := blk_frozen BKg3.out 0; have hcg3_1 : W12.cell? ⟨g3, 1, none⟩ = some (.int .i64 (midI b d)) := (blk_cell BKg3.out 1).trans rfl; have hfg3_1 := blk_frozen BKg3.out 1; have hcg4_0 : W12.cell? ⟨g4, 0, none⟩ = some (.int .i64 0) := (blk_cell BKg4.out 0).trans rfl; have hfg4_0 := blk_frozen BKg4.out 0; have hcg4_1 : W12.cell? ⟨g4, 1, none⟩ = some (.int .i64 0) := (blk_cell BKg4.out 1).trans rfl; have hfg4_1 := blk_frozen BKg4.out 1))
  have n_ : Aside0 (((W12.setCell ⟨g4, 0, none⟩ (.int .i64 (clampI a r))).setCell ⟨g4, 1, none⟩ (.int .i64 (clampI b r))).heap[g4]? = some (.cells #[.int .i64 (clampI a r), .int .i64 (clampI b r)] 23 (0, 0))) := ⟨by refine blk_put (cs := #[.int .i64 (clampI a r), .int .i64 0]) ?_ 1 _ rfl; refine blk_put (cs := #[.int .i64 0, .int .i64 0]) ?_ 0 _ rfl; exact BKg4.out⟩
  have m_ : Aside0 (((W12.setCell ⟨g4, 0, none⟩ (.int .i64 (clampI a r))).setCell ⟨g4, 1, none⟩ (.int .i64 (clampI b r))).heap[g1]? = some (.cells #[.int .i64 a, .int .i64 b] 23 (0, 0))) := ⟨(blk_far (blk_far BKg1.out NBg1_g4 _) NBg1_g4 _)⟩
  clear BKg1; have BKg1 := m_; clear m_
  have m_ : Aside0 (((W12.setCell ⟨g4, 0, none⟩ (.int .i64 (clampI a r))).setCell ⟨g4, 1, none⟩ (.int .i64 (clampI b r))).heap[g2]? = some (.cells #[.int .i64 c, .int .i64 d] 23 (0, 0))) := ⟨(blk_far (blk_far BKg2.out NBg2_g4 _) NBg2_g4 _)⟩
  clear BKg2; have BKg2 := m_; clear m_
  have m_ : Aside0 (((W12.setCell ⟨g4, 0, none⟩ (.int .i64 (clampI a r))).setCell ⟨g4, 1, none⟩ (.int .i64 (clampI b r))).heap[g3]? = some (.cells #[.int .i64 (midI a c), .int .i64 (midI b d)] 23 (0, 0))) := ⟨(blk_far (blk_far BKg3.out NBg3_g4 _) NBg3_g4 _)⟩
  clear BKg3; have BKg3 := m_; clear m_
  have b_ : Aside0 (Below w.heap.size w ((W12.setCell ⟨g4, 0, none⟩ (.int .i64 (clampI a r))).setCell ⟨g4, 1, none⟩ (.int .i64 (clampI b r)))) := ⟨(below_set (below_set HB.out GEg4.out) GEg4.out)⟩
  clear BKg4 HB; have BKg4 := n_; have HB := b_; clear n_ b_
  clear hcg1_0 hfg1_0
  clear hcg1_1 hfg1_1
  clear hcg2_0 hfg2_0
  clear hcg2_1 hfg2_1
  clear hcg3_0 hfg3_0
  clear hcg3_1 hfg3_1
  clear hcg4_0 hfg4_0
  clear hcg4_1 hfg4_1
  generalize ((W12.setCell ⟨g4, 0, none⟩ (.int .i64 (clampI a r))).setCell ⟨g4, 1, none⟩ (.int .i64 (clampI b r))) = W13 at *
  have hcg1_0 : W13.cell? ⟨g1, 0, none⟩ = some (.int .i64 a) := (blk_cell BKg1.out 0).trans rfl
  have hfg1_0 := blk_frozen BKg1.out 0
  have hcg1_1 : W13.cell? ⟨g1, 1, none⟩ = some (.int .i64 b) := (blk_cell BKg1.out 1).trans rfl
  have hfg1_1 := blk_frozen BKg1.out 1
  have hcg2_0 : W13.cell? ⟨g2, 0, none⟩ = some (.int .i64 c) := (blk_cell BKg2.out 0).trans rfl
  have hfg2_0 := blk_frozen BKg2.out 0
  have hcg2_1 : W13.cell? ⟨g2, 1, none⟩ = some (.int .i64 d) := (blk_cell BKg2.out 1).trans rfl
  have hfg2_1 := blk_frozen BKg2.out 1
  have hcg3_0 : W13.cell? ⟨g3, 0, none⟩ = some (.int .i64 (midI a c)) := (blk_cell BKg3.out 0).trans rfl
  have hfg3_0 := blk_frozen BKg3.out 0
  have hcg3_1 : W13.cell? ⟨g3, 1, none⟩ = some (.int .i64 (midI b d)) := (blk_cell BKg3.out 1).trans rfl
  have hfg3_1 := blk_frozen BKg3.out 1
  have hcg4_0 : W13.cell? ⟨g4, 0, none⟩ = some (.int .i64 (clampI a r)) := (blk_cell BKg4.out 0).trans rfl
  have hfg4_0 := blk_frozen BKg4.out 0
  have hcg4_1 : W13.cell? ⟨g4, 1, none⟩ = some (.int .i64 (clampI b r)) := (blk_cell BKg4.out 1).trans rfl
  have hfg4_1 := blk_frozen BKg4.out 1
  ((with_reducible refine (vclamp_yes _ _ _ _ hpos r2).mono ?_); rintro e_ W14 ⟨rfl, hb_⟩)
  have n_ := Aside0.mk (blk_below BKg1.out hb_); clear BKg1; have BKg1 := n_; clear n_
  clear hcg1_0 hfg1_0
  clear hcg1_1 hfg1_1
  have n_ := Aside0.mk (blk_below BKg2.out hb_); clear BKg2; have BKg2 := n_; clear n_
  clear hcg2_0 hfg2_0
  clear hcg2_1 hfg2_1
  have n_ := Aside0.mk (blk_below BKg3.out hb_); clear BKg3; have BKg3 := n_; clear n_
  clear hcg3_0 hfg3_0
  clear hcg3_1 hfg3_1
  have n_ := Aside0.mk (blk_below BKg4.out hb_); clear BKg4; have BKg4 := n_; clear n_
  clear hcg4_0 hfg4_0
  clear hcg4_1 hfg4_1
  have n_ := Aside0.mk (below_step HB.out hb_); clear HB; have HB := n_; clear n_
  clear hb_
  have hcg1_0 : W14.cell? ⟨g1, 0, none⟩ = some (.int .i64 a) := (blk_cell BKg1.out 0).trans rfl
  have hfg1_0 := blk_frozen BKg1.out 0
  have hcg1_1 : W14.cell? ⟨g1, 1, none⟩ = some (.int .i64 b) := (blk_cell BKg1.out 1).trans rfl
  have hfg1_1 := blk_frozen BKg1.out 1
  have hcg2_0 : W14.cell? ⟨g2, 0, none⟩ = some (.int .i64 c) := (blk_cell BKg2.out 0).trans rfl
  have hfg2_0 := blk_frozen BKg2.out 0
  have hcg2_1 : W14.cell? ⟨g2, 1, none⟩ = some (.int .i64 d) := (blk_cell BKg2.out 1).trans rfl
  have hfg2_1 := blk_frozen BKg2.out 1
  have hcg3_0 : W14.cell? ⟨g3, 0, none⟩ = some (.int .i64 (midI a c)) := (blk_cell BKg3.out 0).trans rfl
  have hfg3_0 := blk_frozen BKg3.out 0
  have hcg3_1 : W14.cell? ⟨g3, 1, none⟩ = some (.int .i64 (midI b d)) := (blk_cell BKg3.out 1).trans rfl
  have hfg3_1 := blk_frozen BKg3.out 1
  have hcg4_0 : W14.cell? ⟨g4, 0, none⟩ = some (.int .i64 (clampI a r)) := (blk_cell BKg4.out 0).trans rfl
  have hfg4_0 := blk_frozen BKg4.out 0
  have hcg4_1 : W14.cell? ⟨g4, 1, none⟩ = some (.int .i64 (clampI b r)) := (blk_cell BKg4.out 1).trans rfl
  have hfg4_1 := blk_frozen BKg4.out 1
  rw [k1, k2]
  go_wp2_with (first | ((with_reducible refine gate_dst (N := 17) rfl ?_); refine box_event ?hg (N := 17) ?hd (cs := #[.int .i64 0, .int .i64 0]) (t := 23) ?hr ?_; (case hd => rfl); (case hg => rfl); (case hr => first | (go_simp; done) | (go_simp; rfl)); intro g5 hg_ W15 hbox_ hb_; have GEg5 := Aside0.mk ((by rw [hg_]; exact (below_size HB.out)) : w.heap.size ≤ g5); have NBg1_g5 : g1 ≠ g5 := (by rw [hg_]; exact Nat.ne_of_lt (blk_lt BKg1.out)); have NBg5_g1 : g5 ≠ g1 := Ne.symm NBg1_g5; have NBg2_g5 : g2 ≠ g5 := (by rw [hg_]; exact Nat.ne_of_lt (blk_lt BKg2.out)); have NBg5_g2 : g5 ≠ g2 := Ne.symm NBg2_g5; have NBg3_g5 : g3 ≠ g5 := (by rw [hg_]; exact Nat.ne_of_lt (blk_lt BKg3.out)); have NBg5_g3 : g5 ≠ g3 := Ne.symm NBg3_g5; have NBg4_g5 : g4 ≠ g5 := (by rw [hg_]; exact Nat.ne_of_lt (blk_lt BKg4.out)); have NBg5_g4 : g5 ≠ g4 := Ne.symm NBg4_g5; clear hg_; have n_ := Aside0.mk (blk_below BKg1.out hb_); clear BKg1; have BKg1 := n_; clear n_; clear hcg1_0 hfg1_0; clear hcg1_1 hfg1_1; have n_ := Aside0.mk (blk_below BKg2.out hb_); clear BKg2; have BKg2 := n_; clear n_; clear hcg2_0 hfg2_0; clear hcg2_1 hfg2_1; have n_ := Aside0.mk (blk_below BKg3.out hb_); clear BKg3; have BKg3 := n_; clear n_; clear hcg3_0 hfg3_0; clear hcg3_1 hfg3_1; have n_ := Aside0.mk (blk_below BKg4.out hb_); clear BKg4; have BKg4 := n_; clear n_; clear hcg4_0 hfg4_0; clear hcg4_1 hfg4_1; have n_ := Aside0.mk (below_step HB.out hb_); clear HB; have HB := n_; clear n_; have BKg5 := Aside0.mk hbox_; clear hbox_ hb_; have hcg1_0 : W15.cell? ⟨g1, 0, none⟩ = some (.int .i64 a) := (blk_cell BKg1.out 0).trans rfl; have hfg1_0 := blk_frozen BKg1.out 0; have hcg1_1 : W15.cell? ⟨g1, 1, none⟩ = some (.int .i64 b) := (blk_cell BKg1.out 1).trans rfl; have hfg1_1 := blk_frozen BKg1.out 1; have hcg2_0 : W15.cell? ⟨g2, 0, none⟩ = some (.int .i64 c) := (blk_cell BKg2.out 0).trans rfl; have hfg2_0 := blk_frozen BKg2.out 0; have hcg2_1 : W15.cell? ⟨g2, 1, none⟩ = some (.int .i64 d) := (blk_cell BKg2.out 1).trans rfl; have hfg2_1 := blk_frozen BKg2.out 1; have hcg3_0 : W15.cell? ⟨g3, 0, none⟩ = some (.int .i64 (midI a c)) := (blk_cell BKg3.out 0).trans rfl; have hfg3_0 := blk_frozen BKg3.out 0; have hcg3_1 : W15.cell? ⟨g3, 1, none⟩ = some (.int .i64 (midI b d)) := (blk_cell BKg3.out 1).trans rfl; have hfg3_1 := blk_frozen BKg3.out 1; have hcg4_0 : W15.cell? ⟨g4, 0, none⟩ = some (.int .i64 (clampI a r)) := (blk_cell BKg4.out 0).trans rfl; have hfg4_0 := blk_frozen BKg4.out 0; have hcg4_1 : W15.cell? ⟨g4, 1, none⟩ = some (.int .i64 (clampI b r)) := (blk_cell BKg4.out 1).trans rfl; have hfg4_1 := blk_frozen BKg4.out 1; have hcg5_0 : W15.cell? ⟨g5, 0, none⟩ = some (.int .i64 0) := (blk_cell BKg5.out 0).trans rfl; have hfg5_0 := blk_frozen BKg5.out 0; have hcg5_1 : W15.cell? ⟨g5, 1, none⟩ = some (.int .i64 0) := (blk_cell BKg5.out 1).trans rfl; have hfg5_1 := blk_frozen BKg5.out 1))
  have n_ : Aside0 (((W15.setCell ⟨g5, 0, none⟩ (.int .i64 (clampI a r))).setCell ⟨g5, 1, none⟩ (.int .i64 (clampI b r))).heap[g5]? = some (.cells #[.int .i64 (clampI a r), .int .i64 (clampI b r)] 23 (0, 0))) := ⟨by refine blk_put (cs := #[.int .i64 (clampI a r), .int .i64 0]) ?_ 1 _ rfl; refine blk_put (cs := #[.int .i64 0, .int .i64 0]) ?_ 0 _ rfl; exact BKg5.out⟩
  have m_ : Aside0 (((W15.setCell ⟨g5, 0, none⟩ (.int .i64 (clampI a r))).setCell ⟨g5, 1, none⟩ (.int .i64 (clampI b r))).heap[g1]? = some (.cells #[.int .i64 a, .int .i64 b] 23 (0, 0))) := ⟨(blk_far (blk_far BKg1.out NBg1_g5 _) NBg1_g5 _)⟩
  clear BKg1; have BKg1 := m_; clear m_
  have m_ : Aside0 (((W15.setCell ⟨g5, 0, none⟩ (.int .i64 (clampI a r))).setCell ⟨g5, 1, none⟩ (.int .i64 (clampI b r))).heap[g2]? = some (.cells #[.int .i64 c, .int .i64 d] 23 (0, 0))) := ⟨(blk_far (blk_far BKg2.out NBg2_g5 _) NBg2_g5 _)⟩
  clear BKg2; have BKg2 := m_; clear m_
  have m_ : Aside0 (((W15.setCell ⟨g5, 0, none⟩ (.int .i64 (clampI a r))).setCell ⟨g5, 1, none⟩ (.int .i64 (clampI b r))).heap[g3]? = some (.cells #[.int .i64 (midI a c), .int .i64 (midI b d)] 23 (0, 0))) := ⟨(blk_far (blk_far BKg3.out NBg3_g5 _) NBg3_g5 _)⟩
  clear BKg3; have BKg3 := m_; clear m_
  have m_ : Aside0 (((W15.setCell ⟨g5, 0, none⟩ (.int .i64 (clampI a r))).setCell ⟨g5, 1, none⟩ (.int .i64 (clampI b r))).heap[g4]? = some (.cells #[.int .i64 (clampI a r), .int .i64 (clampI b r)] 23 (0, 0))) := ⟨(blk_far (blk_far BKg4.out NBg4_g5 _) NBg4_g5 _)⟩
  clear BKg4; have BKg4 := m_; clear m_
  have b_ : Aside0 (Below w.heap.size w ((W15.setCell ⟨g5, 0, none⟩ (.int .i64 (clampI a r))).setCell ⟨g5, 1, none⟩ (.int .i64 (clampI b r)))) := ⟨(below_set (below_set HB.out GEg5.out) GEg5.out)⟩
  clear BKg5 HB; have BKg5 := n_; have HB := b_; clear n_ b_
  clear hcg1_0 hfg1_0
  clear hcg1_1 hfg1_1
  clear hcg2_0 hfg2_0
  clear hcg2_1 hfg2_1
  clear hcg3_0 hfg3_0
  clear hcg3_1 hfg3_1
  clear hcg4_0 hfg4_0
  clear hcg4_1 hfg4_1
  clear hcg5_0 hfg5_0
  clear hcg5_1 hfg5_1
  generalize ((W15.setCell ⟨g5, 0, none⟩ (.int .i64 (clampI a r))).setCell ⟨g5, 1, none⟩ (.int .i64 (clampI b r))) = W16 at *
  have hcg1_0 : W16.cell? ⟨g1, 0, none⟩ = some (.int .i64 a) := (blk_cell BKg1.out 0).trans rfl
  have hfg1_0 := blk_frozen BKg1.out 0
  have hcg1_1 : W16.cell? ⟨g1, 1, none⟩ = some (.int .i64 b) := (blk_cell BKg1.out 1).trans rfl
  have hfg1_1 := blk_frozen BKg1.out 1
  have hcg2_0 : W16.cell? ⟨g2, 0, none⟩ = some (.int .i64 c) := (blk_cell BKg2.out 0).trans rfl
  have hfg2_0 := blk_frozen BKg2.out 0
  have hcg2_1 : W16.cell? ⟨g2, 1, none⟩ = some (.int .i64 d) := (blk_cell BKg2.out 1).trans rfl
  have hfg2_1 := blk_frozen BKg2.out 1
  have hcg3_0 : W16.cell? ⟨g3, 0, none⟩ = some (.int .i64 (midI a c)) := (blk_cell BKg3.out 0).trans rfl
  have hfg3_0 := blk_frozen BKg3.out 0
  have hcg3_1 : W16.cell? ⟨g3, 1, none⟩ = some (.int .i64 (midI b d)) := (blk_cell BKg3.out 1).trans rfl
  have hfg3_1 := blk_frozen BKg3.out 1
  have hcg4_0 : W16.cell? ⟨g4, 0, none⟩ = some (.int .i64 (clampI a r)) := (blk_cell BKg4.out 0).trans rfl
  have hfg4_0 := blk_frozen BKg4.out 0
  have hcg4_1 : W16.cell? ⟨g4, 1, none⟩ = some (.int .i64 (clampI b r)) := (blk_cell BKg4.out 1).trans rfl
  have hfg4_1 := blk_frozen BKg4.out 1
  have hcg5_0 : W16.cell? ⟨g5, 0, none⟩ = some (.int .i64 (clampI a r)) := (blk_cell BKg5.out 0).trans rfl
  have hfg5_0 := blk_frozen BKg5.out 0
  have hcg5_1 : W16.cell? ⟨g5, 1, none⟩ = some (.int .i64 (clampI b r)) := (blk_cell BKg5.out 1).trans rfl
  have hfg5_1 := blk_frozen BKg5.out 1
  go_outline
  ((with_reducible refine (vnear_calls _ _ _ _ _ _ hca hcb hz hz hr).mono ?_); rintro e_ W17 ⟨rfl, hb_⟩)
  have n_ := Aside0.mk (blk_below BKg1.out hb_); clear BKg1; have BKg1 := n_; clear n_
  clear hcg1_0 hfg1_0
  clear hcg1_1 hfg1_1
  have n_ := Aside0.mk (blk_below BKg2.out hb_); clear BKg2; have BKg2 := n_; clear n_
  clear hcg2_0 hfg2_0
  clear hcg2_1 hfg2_1
  have n_ := Aside0.mk (blk_below BKg3.out hb_); clear BKg3; have BKg3 := n_; clear n_
  clear hcg3_0 hfg3_0
  clear hcg3_1 hfg3_1
  have n_ := Aside0.mk (blk_below BKg4.out hb_); clear BKg4; have BKg4 := n_; clear n_
  clear hcg4_0 hfg4_0
  clear hcg4_1 hfg4_1
  have n_ := Aside0.mk (blk_below BKg5.out hb_); clear BKg5; have BKg5 := n_; clear n_
  clear hcg5_0 hfg5_0
  clear hcg5_1 hfg5_1
  have n_ := Aside0.mk (below_step HB.out hb_); clear HB; have HB := n_; clear n_
  clear hb_
  have hcg1_0 : W17.cell? ⟨g1, 0, none⟩ = some (.int .i64 a) := (blk_cell BKg1.out 0).trans rfl
  have hfg1_0 := blk_frozen BKg1.out 0
  have hcg1_1 : W17.cell? ⟨g1, 1, none⟩ = some (.int .i64 b) := (blk_cell BKg1.out 1).trans rfl
  have hfg1_1 := blk_frozen BKg1.out 1
  have hcg2_0 : W17.cell? ⟨g2, 0, none⟩ = some (.int .i64 c) := (blk_cell BKg2.out 0).trans rfl
  have hfg2_0 := blk_frozen BKg2.out 0
  have hcg2_1 : W17.cell? ⟨g2, 1, none⟩ = some (.int .i64 d) := (blk_cell BKg2.out 1).trans rfl
  have hfg2_1 := blk_frozen BKg2.out 1
  have hcg3_0 : W17.cell? ⟨g3, 0, none⟩ = some (.int .i64 (midI a c)) := (blk_cell BKg3.out 0).trans rfl
  have hfg3_0 := blk_frozen BKg3.out 0
  have hcg3_1 : W17.cell? ⟨g3, 1, none⟩ = some (.int .i64 (midI b d)) := (blk_cell BKg3.out 1).trans rfl
  have hfg3_1 := blk_frozen BKg3.out 1
  have hcg4_0 : W17.cell? ⟨g4, 0, none⟩ = some (.int .i64 (clampI a r)) := (blk_cell BKg4.out 0).trans rfl
  have hfg4_0 := blk_frozen BKg4.out 0
  have hcg4_1 : W17.cell? ⟨g4, 1, none⟩ = some (.int .i64 (clampI b r)) := (blk_cell BKg4.out 1).trans rfl
  have hfg4_1 := blk_frozen BKg4.out 1
  have hcg5_0 : W17.cell? ⟨g5, 0, none⟩ = some (.int .i64 (clampI a r)) := (blk_cell BKg5.out 0).trans rfl
  have hfg5_0 := blk_frozen BKg5.out 0
  have hcg5_1 : W17.cell? ⟨g5, 1, none⟩ = some (.int .i64 (clampI b r)) := (blk_cell BKg5.out 1).trans rfl
  have hfg5_1 := blk_frozen BKg5.out 1
  go_wp2_with fail
  ((with_reducible refine (vnear_calls _ _ _ _ _ _ ha hb ha hb (mx_I64 hr hz)).mono ?_); rintro e_ W18 ⟨rfl, hb_⟩)
  have n_ := Aside0.mk (blk_below BKg1.out hb_); clear BKg1; have BKg1 := n_; clear n_
  clear hcg1_0 hfg1_0
  clear hcg1_1 hfg1_1
  have n_ := Aside0.mk (blk_below BKg2.out hb_); clear BKg2; have BKg2 := n_; clear n_
  clear hcg2_0 hfg2_0
  clear hcg2_1 hfg2_1
  have n_ := Aside0.mk (blk_below BKg3.out hb_); clear BKg3; have BKg3 := n_; clear n_
  clear hcg3_0 hfg3_0
  clear hcg3_1 hfg3_1
  have n_ := Aside0.mk (blk_below BKg4.out hb_); clear BKg4; have BKg4 := n_; clear n_
  clear hcg4_0 hfg4_0
  clear hcg4_1 hfg4_1
  have n_ := Aside0.mk (blk_below BKg5.out hb_); clear BKg5; have BKg5 := n_; clear n_
  clear hcg5_0 hfg5_0
  clear hcg5_1 hfg5_1
  have n_ := Aside0.mk (below_step HB.out hb_); clear HB; have HB := n_; clear n_
  clear hb_
  have hcg1_0 : W18.cell? ⟨g1, 0, none⟩ = some (.int .i64 a) := (blk_cell BKg1.out 0).trans rfl
  have hfg1_0 := blk_frozen BKg1.out 0
  have hcg1_1 : W18.cell? ⟨g1, 1, none⟩ = some (.int .i64 b) := (blk_cell BKg1.out 1).trans rfl
  have hfg1_1 := blk_frozen BKg1.out 1
  have hcg2_0 : W18.cell? ⟨g2, 0, none⟩ = some (.int .i64 c) := (blk_cell BKg2.out 0).trans rfl
  have hfg2_0 := blk_frozen BKg2.out 0
  have hcg2_1 : W18.cell? ⟨g2, 1, none⟩ = some (.int .i64 d) := (blk_cell BKg2.out 1).trans rfl
  have hfg2_1 := blk_frozen BKg2.out 1
  have hcg3_0 : W18.cell? ⟨g3, 0, none⟩ = some (.int .i64 (midI a c)) := (blk_cell BKg3.out 0).trans rfl
  have hfg3_0 := blk_frozen BKg3.out 0
  have hcg3_1 : W18.cell? ⟨g3, 1, none⟩ = some (.int .i64 (midI b d)) := (blk_cell BKg3.out 1).trans rfl
  have hfg3_1 := blk_frozen BKg3.out 1
  have hcg4_0 : W18.cell? ⟨g4, 0, none⟩ = some (.int .i64 (clampI a r)) := (blk_cell BKg4.out 0).trans rfl
  have hfg4_0 := blk_frozen BKg4.out 0
  have hcg4_1 : W18.cell? ⟨g4, 1, none⟩ = some (.int .i64 (clampI b r)) := (blk_cell BKg4.out 1).trans rfl
  have hfg4_1 := blk_frozen BKg4.out 1
  have hcg5_0 : W18.cell? ⟨g5, 0, none⟩ = some (.int .i64 (clampI a r)) := (blk_cell BKg5.out 0).trans rfl
  have hfg5_0 := blk_frozen BKg5.out 0
  have hcg5_1 : W18.cell? ⟨g5, 1, none⟩ = some (.int .i64 (clampI b r)) := (blk_cell BKg5.out 1).trans rfl
  have hfg5_1 := blk_frozen BKg5.out 1
  go_wp2
  go_ret
  exact ⟨rfl, (by repeat (first | (with_reducible first | exact HB.out | apply below_alloc | apply pw_below_drewN | apply below_drew1) | exact HB.out))⟩
set_option maxHeartbeats 4000000 in
set_option maxRecDepth 100000 in
theorem vecnear_3 (a b c d r more : Int) (w : World) (ha : I64 a) (hb : I64 b) (hc : I64 c) (hd : I64 d) (hr : I64 r) (hm : I64 more) (hpos : 0 ≤ r) (hp : nearB a b c d r = false) :
    Calls Try.prog 4 #[.agg #[.int .i64 a, .int .i64 b], .agg #[.int .i64 c, .int .i64 d], .int .i64 r, .int .i64 more] w
      fun e w' => e = .returned (.bool true) ∧ Below w.heap.size w w' := by
  have HB := Aside0.mk (Below.refl w.heap.size w)
  have r1 := hr.1
  have r2 := hr.2
  have h2 : nearB c d a b r = false := (near_comm a b c d r).trans hp
  have m1 := mid_ge ha hc
  have m2 := mid_le ha hc
  have m3 := mid_ge hb hd
  have m4 := mid_le hb hd
  have m5 := mid_comm ha hc
  have m6 := mid_comm hb hd
  have n1 : nearB a b a b (mx r 0) = true := near_self a b _ (le_mx' _ _)
  have hz : I64 0 := ⟨by omega, by omega⟩
  have k1 := clamp_clamp a r hpos
  have k2 := clamp_clamp b r hpos
  have k3 := clamp_near a b r hpos
  have hca := clamp_I64 (m := r) ha hpos r2
  have hcb := clamp_I64 (m := r) hb hpos r2
  go_enter Try.func4, Try.ntmps4
  go_wp2_with (first | ((with_reducible refine gate_dst (N := 4) rfl ?_); refine box_event ?hg (N := 4) ?hd (cs := #[.int .i64 a, .int .i64 b]) (t := 23) ?hr ?_; (case hd => rfl); (case hg => rfl); (case hr => first | (go_simp; done) | (go_simp; rfl)); intro g1 hg_ W1 hbox_ hb_; have GEg1 := Aside0.mk ((by rw [hg_]; exact (below_size HB.out)) : w.heap.size ≤ g1); clear hg_; have n_ := Aside0.mk (below_step HB.out hb_); clear HB; have HB := n_; clear n_; have BKg1 := Aside0.mk hbox_; clear hbox_ hb_; have hcg1_0 : W1.cell? ⟨g1, 0, none⟩ = some (.int .i64 a) := (blk_cell BKg1.out 0).trans rfl; have hfg1_0 := blk_frozen BKg1.out 0; have hcg1_1 : W1.cell? ⟨g1, 1, none⟩ = some (.int .i64 b) := (blk_cell BKg1.out 1).trans rfl; have hfg1_1 := blk_frozen BKg1.out 1) | ((with_reducible refine gate_dst (N := 5) rfl ?_); refine box_event ?hg (N := 5) ?hd (cs := #[.int .i64 c, .int .i64 d]) (t := 23) ?hr ?_; (case hd => rfl); (case hg => rfl); (case hr => first | (go_simp; done) | (go_simp; rfl)); intro g2 hg_ W2 hbox_ hb_; have GEg2 := Aside0.mk ((by rw [hg_]; exact (below_size HB.out)) : w.heap.size ≤ g2); have NBg1_g2 : g1 ≠ g2 := (by rw [hg_]; exact Nat.ne_of_lt (blk_lt BKg1.out)); have NBg2_g1 : g2 ≠ g1 := Ne.symm NBg1_g2; clear hg_; have n_ := Aside0.mk (blk_below BKg1.out hb_); clear BKg1; have BKg1 := n_; clear n_; clear hcg1_0 hfg1_0; clear hcg1_1 hfg1_1; have n_ := Aside0.mk (below_step HB.out hb_); clear HB; have HB := n_; clear n_; have BKg2 := Aside0.mk hbox_; clear hbox_ hb_; have hcg1_0 : W2.cell? ⟨g1, 0, none⟩ = some (.int .i64 a) := (blk_cell BKg1.out 0).trans rfl; have hfg1_0 := blk_frozen BKg1.out 0; have hcg1_1 : W2.cell? ⟨g1, 1, none⟩ = some (.int .i64 b) := (blk_cell BKg1.out 1).trans rfl; have hfg1_1 := blk_frozen BKg1.out 1; have hcg2_0 : W2.cell? ⟨g2, 0, none⟩ = some (.int .i64 c) := (blk_cell BKg2.out 0).trans rfl; have hfg2_0 := blk_frozen BKg2.out 0; have hcg2_1 : W2.cell? ⟨g2, 1, none⟩ = some (.int .i64 d) := (blk_cell BKg2.out 1).trans rfl; have hfg2_1 := blk_frozen BKg2.out 1))
  ((with_reducible refine (awake_calls _).mono ?_); rintro e_ W3 ⟨rfl, hb_⟩)
  have n_ := Aside0.mk (blk_below BKg1.out hb_); clear BKg1; have BKg1 := n_; clear n_
  clear hcg1_0 hfg1_0
  clear hcg1_1 hfg1_1
  have n_ := Aside0.mk (blk_below BKg2.out hb_); clear BKg2; have BKg2 := n_; clear n_
  clear hcg2_0 hfg2_0
  clear hcg2_1 hfg2_1
  have n_ := Aside0.mk (below_step HB.out hb_); clear HB; have HB := n_; clear n_
  clear hb_
  have hcg1_0 : W3.cell? ⟨g1, 0, none⟩ = some (.int .i64 a) := (blk_cell BKg1.out 0).trans rfl
  have hfg1_0 := blk_frozen BKg1.out 0
  have hcg1_1 : W3.cell? ⟨g1, 1, none⟩ = some (.int .i64 b) := (blk_cell BKg1.out 1).trans rfl
  have hfg1_1 := blk_frozen BKg1.out 1
  have hcg2_0 : W3.cell? ⟨g2, 0, none⟩ = some (.int .i64 c) := (blk_cell BKg2.out 0).trans rfl
  have hfg2_0 := blk_frozen BKg2.out 0
  have hcg2_1 : W3.cell? ⟨g2, 1, none⟩ = some (.int .i64 d) := (blk_cell BKg2.out 1).trans rfl
  have hfg2_1 := blk_frozen BKg2.out 1
  go_wp2_with fail
  ((with_reducible refine (vnear_calls _ _ _ _ _ _ ha hb hc hd hr).mono ?_); rintro e_ W4 ⟨rfl, hb_⟩)
  have n_ := Aside0.mk (blk_below BKg1.out hb_); clear BKg1; have BKg1 := n_; clear n_
  clear hcg1_0 hfg1_0
  clear hcg1_1 hfg1_1
  have n_ := Aside0.mk (blk_below BKg2.out hb_); clear BKg2; have BKg2 := n_; clear n_
  clear hcg2_0 hfg2_0
  clear hcg2_1 hfg2_1
  have n_ := Aside0.mk (below_step HB.out hb_); clear HB; have HB := n_; clear n_
  clear hb_
  have hcg1_0 : W4.cell? ⟨g1, 0, none⟩ = some (.int .i64 a) := (blk_cell BKg1.out 0).trans rfl
  have hfg1_0 := blk_frozen BKg1.out 0
  have hcg1_1 : W4.cell? ⟨g1, 1, none⟩ = some (.int .i64 b) := (blk_cell BKg1.out 1).trans rfl
  have hfg1_1 := blk_frozen BKg1.out 1
  have hcg2_0 : W4.cell? ⟨g2, 0, none⟩ = some (.int .i64 c) := (blk_cell BKg2.out 0).trans rfl
  have hfg2_0 := blk_frozen BKg2.out 0
  have hcg2_1 : W4.cell? ⟨g2, 1, none⟩ = some (.int .i64 d) := (blk_cell BKg2.out 1).trans rfl
  have hfg2_1 := blk_frozen BKg2.out 1
  go_wp2_with fail
  ((with_reducible refine (vnear_calls _ _ _ _ _ _ hc hd ha hb hr).mono ?_); rintro e_ W5 ⟨rfl, hb_⟩)
  have n_ := Aside0.mk (blk_below BKg1.out hb_); clear BKg1; have BKg1 := n_; clear n_
  clear hcg1_0 hfg1_0
  clear hcg1_1 hfg1_1
  have n_ := Aside0.mk (blk_below BKg2.out hb_); clear BKg2; have BKg2 := n_; clear n_
  clear hcg2_0 hfg2_0
  clear hcg2_1 hfg2_1
  have n_ := Aside0.mk (below_step HB.out hb_); clear HB; have HB := n_; clear n_
  clear hb_
  have hcg1_0 : W5.cell? ⟨g1, 0, none⟩ = some (.int .i64 a) := (blk_cell BKg1.out 0).trans rfl
  have hfg1_0 := blk_frozen BKg1.out 0
  have hcg1_1 : W5.cell? ⟨g1, 1, none⟩ = some (.int .i64 b) := (blk_cell BKg1.out 1).trans rfl
  have hfg1_1 := blk_frozen BKg1.out 1
  have hcg2_0 : W5.cell? ⟨g2, 0, none⟩ = some (.int .i64 c) := (blk_cell BKg2.out 0).trans rfl
  have hfg2_0 := blk_frozen BKg2.out 0
  have hcg2_1 : W5.cell? ⟨g2, 1, none⟩ = some (.int .i64 d) := (blk_cell BKg2.out 1).trans rfl
  have hfg2_1 := blk_frozen BKg2.out 1
  go_wp2_with fail
  ((with_reducible refine (vnear_calls _ _ _ _ _ _ ha hb hc hd (mx_I64 hr hm)).mono ?_); rintro e_ W6 ⟨rfl, hb_⟩)
  have n_ := Aside0.mk (blk_below BKg1.out hb_); clear BKg1; have BKg1 := n_; clear n_
  clear hcg1_0 hfg1_0
  clear hcg1_1 hfg1_1
  have n_ := Aside0.mk (blk_below BKg2.out hb_); clear BKg2; have BKg2 := n_; clear n_
  clear hcg2_0 hfg2_0
  clear hcg2_1 hfg2_1
  have n_ := Aside0.mk (below_step HB.out hb_); clear HB; have HB := n_; clear n_
  clear hb_
  have hcg1_0 : W6.cell? ⟨g1, 0, none⟩ = some (.int .i64 a) := (blk_cell BKg1.out 0).trans rfl
  have hfg1_0 := blk_frozen BKg1.out 0
  have hcg1_1 : W6.cell? ⟨g1, 1, none⟩ = some (.int .i64 b) := (blk_cell BKg1.out 1).trans rfl
  have hfg1_1 := blk_frozen BKg1.out 1
  have hcg2_0 : W6.cell? ⟨g2, 0, none⟩ = some (.int .i64 c) := (blk_cell BKg2.out 0).trans rfl
  have hfg2_0 := blk_frozen BKg2.out 0
  have hcg2_1 : W6.cell? ⟨g2, 1, none⟩ = some (.int .i64 d) := (blk_cell BKg2.out 1).trans rfl
  have hfg2_1 := blk_frozen BKg2.out 1
  go_wp2_with fail
  ((with_reducible refine (vmean_calls _ _ _ _ _).mono ?_); rintro e_ W7 ⟨rfl, hb_⟩)
  have n_ := Aside0.mk (blk_below BKg1.out hb_); clear BKg1; have BKg1 := n_; clear n_
  clear hcg1_0 hfg1_0
  clear hcg1_1 hfg1_1
  have n_ := Aside0.mk (blk_below BKg2.out hb_); clear BKg2; have BKg2 := n_; clear n_
  clear hcg2_0 hfg2_0
  clear hcg2_1 hfg2_1
  have n_ := Aside0.mk (below_step HB.out hb_); clear HB; have HB := n_; clear n_
  clear hb_
  have hcg1_0 : W7.cell? ⟨g1, 0, none⟩ = some (.int .i64 a) := (blk_cell BKg1.out 0).trans rfl
  have hfg1_0 := blk_frozen BKg1.out 0
  have hcg1_1 : W7.cell? ⟨g1, 1, none⟩ = some (.int .i64 b) := (blk_cell BKg1.out 1).trans rfl
  have hfg1_1 := blk_frozen BKg1.out 1
  have hcg2_0 : W7.cell? ⟨g2, 0, none⟩ = some (.int .i64 c) := (blk_cell BKg2.out 0).trans rfl
  have hfg2_0 := blk_frozen BKg2.out 0
  have hcg2_1 : W7.cell? ⟨g2, 1, none⟩ = some (.int .i64 d) := (blk_cell BKg2.out 1).trans rfl
  have hfg2_1 := blk_frozen BKg2.out 1
  go_wp2_with (first | ((with_reducible refine gate_dst (N := 13) rfl ?_); refine box_event ?hg (N := 13) ?hd (cs := #[.int .i64 0, .int .i64 0]) (t := 23) ?hr ?_; (case hd => rfl); (case hg => rfl); (case hr => first | (go_simp; done) | (go_simp; rfl)); intro g3 hg_ W8 hbox_ hb_; have GEg3 := Aside0.mk ((by rw [hg_]; exact (below_size HB.out)) : w.heap.size ≤ g3); have NBg1_g3 : g1 ≠ g3 := (by rw [hg_]; exact Nat.ne_of_lt (blk_lt BKg1.out)); have NBg3_g1 : g3 ≠ g1 := Ne.symm NBg1_g3; have NBg2_g3 : g2 ≠ g3 := (by rw [hg_]; exact Nat.ne_of_lt (blk_lt BKg2.out)); have NBg3_g2 : g3 ≠ g2 := Ne.symm NBg2_g3; clear hg_; have n_ := Aside0.mk (blk_below BKg1.out hb_); clear BKg1; have BKg1 := n_; clear n_; clear hcg1_0 hfg1_0; clear hcg1_1 hfg1_1; have n_ := Aside0.mk (blk_below BKg2.out hb_); clear BKg2; have BKg2 := n_; clear n_; clear hcg2_0 hfg2_0; clear hcg2_1 hfg2_1; have n_ := Aside0.mk (below_step HB.out hb_); clear HB; have HB := n_; clear n_; have BKg3 := Aside0.mk hbox_; clear hbox_ hb_; have hcg1_0 : W8.cell? ⟨g1, 0, none⟩ = some (.int .i64 a) := (blk_cell BKg1.out 0).trans rfl; have hfg1_0 := blk_frozen BKg1.out 0; have hcg1_1 : W8.cell? ⟨g1, 1, none⟩ = some (.int .i64 b) := (blk_cell BKg1.out 1).trans rfl; have hfg1_1 := blk_frozen BKg1.out 1; have hcg2_0 : W8.cell? ⟨g2, 0, none⟩ = some (.int .i64 c) := (blk_cell BKg2.out 0).trans rfl; have hfg2_0 := blk_frozen BKg2.out 0; have hcg2_1 : W8.cell? ⟨g2, 1, none⟩ = some (.int .i64 d) := (blk_cell BKg2.out 1).trans rfl; have hfg2_1 := blk_frozen BKg2.out 1; have hcg3_0 : W8.cell? ⟨g3, 0, none⟩ = some (.int .i64 0) := (blk_cell BKg3.out 0).trans rfl; have hfg3_0 := blk_frozen BKg3.out 0; have hcg3_1 : W8.cell? ⟨g3, 1, none⟩ = some (.int .i64 0) := (blk_cell BKg3.out 1).trans rfl; have hfg3_1 := blk_frozen BKg3.out 1))
  have n_ : Aside0 (((W8.setCell ⟨g3, 0, none⟩ (.int .i64 (midI a c))).setCell ⟨g3, 1, none⟩ (.int .i64 (midI b d))).heap[g3]? = some (.cells #[.int .i64 (midI a c), .int .i64 (midI b d)] 23 (0, 0))) := ⟨by refine blk_put (cs := #[.int .i64 (midI a c), .int .i64 0]) ?_ 1 _ rfl; refine blk_put (cs := #[.int .i64 0, .int .i64 0]) ?_ 0 _ rfl; exact BKg3.out⟩
  have m_ : Aside0 (((W8.setCell ⟨g3, 0, none⟩ (.int .i64 (midI a c))).setCell ⟨g3, 1, none⟩ (.int .i64 (midI b d))).heap[g1]? = some (.cells #[.int .i64 a, .int .i64 b] 23 (0, 0))) := ⟨(blk_far (blk_far BKg1.out NBg1_g3 _) NBg1_g3 _)⟩
  clear BKg1; have BKg1 := m_; clear m_
  have m_ : Aside0 (((W8.setCell ⟨g3, 0, none⟩ (.int .i64 (midI a c))).setCell ⟨g3, 1, none⟩ (.int .i64 (midI b d))).heap[g2]? = some (.cells #[.int .i64 c, .int .i64 d] 23 (0, 0))) := ⟨(blk_far (blk_far BKg2.out NBg2_g3 _) NBg2_g3 _)⟩
  clear BKg2; have BKg2 := m_; clear m_
  have b_ : Aside0 (Below w.heap.size w ((W8.setCell ⟨g3, 0, none⟩ (.int .i64 (midI a c))).setCell ⟨g3, 1, none⟩ (.int .i64 (midI b d)))) := ⟨(below_set (below_set HB.out GEg3.out) GEg3.out)⟩
  clear BKg3 HB; have BKg3 := n_; have HB := b_; clear n_ b_
  clear hcg1_0 hfg1_0
  clear hcg1_1 hfg1_1
  clear hcg2_0 hfg2_0
  clear hcg2_1 hfg2_1
  clear hcg3_0 hfg3_0
  clear hcg3_1 hfg3_1
  generalize ((W8.setCell ⟨g3, 0, none⟩ (.int .i64 (midI a c))).setCell ⟨g3, 1, none⟩ (.int .i64 (midI b d))) = W9 at *
  have hcg1_0 : W9.cell? ⟨g1, 0, none⟩ = some (.int .i64 a) := (blk_cell BKg1.out 0).trans rfl
  have hfg1_0 := blk_frozen BKg1.out 0
  have hcg1_1 : W9.cell? ⟨g1, 1, none⟩ = some (.int .i64 b) := (blk_cell BKg1.out 1).trans rfl
  have hfg1_1 := blk_frozen BKg1.out 1
  have hcg2_0 : W9.cell? ⟨g2, 0, none⟩ = some (.int .i64 c) := (blk_cell BKg2.out 0).trans rfl
  have hfg2_0 := blk_frozen BKg2.out 0
  have hcg2_1 : W9.cell? ⟨g2, 1, none⟩ = some (.int .i64 d) := (blk_cell BKg2.out 1).trans rfl
  have hfg2_1 := blk_frozen BKg2.out 1
  have hcg3_0 : W9.cell? ⟨g3, 0, none⟩ = some (.int .i64 (midI a c)) := (blk_cell BKg3.out 0).trans rfl
  have hfg3_0 := blk_frozen BKg3.out 0
  have hcg3_1 : W9.cell? ⟨g3, 1, none⟩ = some (.int .i64 (midI b d)) := (blk_cell BKg3.out 1).trans rfl
  have hfg3_1 := blk_frozen BKg3.out 1
  have hqg1_0 : ∀ u : Aft W9, u.w.cell? ⟨g1, 0, none⟩ = some (.int .i64 a) := fun u => (blk_cell (blk_below BKg1.out u.below) 0).trans rfl
  have hqg1_1 : ∀ u : Aft W9, u.w.cell? ⟨g1, 1, none⟩ = some (.int .i64 b) := fun u => (blk_cell (blk_below BKg1.out u.below) 1).trans rfl
  have hqg2_0 : ∀ u : Aft W9, u.w.cell? ⟨g2, 0, none⟩ = some (.int .i64 c) := fun u => (blk_cell (blk_below BKg2.out u.below) 0).trans rfl
  have hqg2_1 : ∀ u : Aft W9, u.w.cell? ⟨g2, 1, none⟩ = some (.int .i64 d) := fun u => (blk_cell (blk_below BKg2.out u.below) 1).trans rfl
  have hqg3_0 : ∀ u : Aft W9, u.w.cell? ⟨g3, 0, none⟩ = some (.int .i64 (midI a c)) := fun u => (blk_cell (blk_below BKg3.out u.below) 0).trans rfl
  have hqg3_1 : ∀ u : Aft W9, u.w.cell? ⟨g3, 1, none⟩ = some (.int .i64 (midI b d)) := fun u => (blk_cell (blk_below BKg3.out u.below) 1).trans rfl
  refine wp_region_aft (by kernel_rfl) (by kernel_rfl) ?_
  repeat (go_big_quiet_step (first | (go_at_call 13; refine aft_call (fun w => vmean_calls _ _ _ _ w))))
  refine wpQuiet_nil ?_
  intro W10 hb_
  clear hqg1_0
  clear hqg1_1
  clear hqg2_0
  clear hqg2_1
  clear hqg3_0
  clear hqg3_1
  have n_ := Aside0.mk (blk_below BKg1.out hb_); clear BKg1; have BKg1 := n_; clear n_
  clear hcg1_0 hfg1_0
  clear hcg1_1 hfg1_1
  have n_ := Aside0.mk (blk_below BKg2.out hb_); clear BKg2; have BKg2 := n_; clear n_
  clear hcg2_0 hfg2_0
  clear hcg2_1 hfg2_1
  have n_ := Aside0.mk (blk_below BKg3.out hb_); clear BKg3; have BKg3 := n_; clear n_
  clear hcg3_0 hfg3_0
  clear hcg3_1 hfg3_1
  have n_ := Aside0.mk (below_step HB.out hb_); clear HB; have HB := n_; clear n_
  clear hb_
  have hcg1_0 : W10.cell? ⟨g1, 0, none⟩ = some (.int .i64 a) := (blk_cell BKg1.out 0).trans rfl
  have hfg1_0 := blk_frozen BKg1.out 0
  have hcg1_1 : W10.cell? ⟨g1, 1, none⟩ = some (.int .i64 b) := (blk_cell BKg1.out 1).trans rfl
  have hfg1_1 := blk_frozen BKg1.out 1
  have hcg2_0 : W10.cell? ⟨g2, 0, none⟩ = some (.int .i64 c) := (blk_cell BKg2.out 0).trans rfl
  have hfg2_0 := blk_frozen BKg2.out 0
  have hcg2_1 : W10.cell? ⟨g2, 1, none⟩ = some (.int .i64 d) := (blk_cell BKg2.out 1).trans rfl
  have hfg2_1 := blk_frozen BKg2.out 1
  have hcg3_0 : W10.cell? ⟨g3, 0, none⟩ = some (.int .i64 (midI a c)) := (blk_cell BKg3.out 0).trans rfl
  have hfg3_0 := blk_frozen BKg3.out 0
  have hcg3_1 : W10.cell? ⟨g3, 1, none⟩ = some (.int .i64 (midI b d)) := (blk_cell BKg3.out 1).trans rfl
  have hfg3_1 := blk_frozen BKg3.out 1
  go_wp2_with fail
  ((with_reducible refine (vclamp_yes _ _ _ _ hpos r2).mono ?_); rintro e_ W11 ⟨rfl, hb_⟩)
  have n_ := Aside0.mk (blk_below BKg1.out hb_); clear BKg1; have BKg1 := n_; clear n_
  clear hcg1_0 hfg1_0
  clear hcg1_1 hfg1_1
  have n_ := Aside0.mk (blk_below BKg2.out hb_); clear BKg2; have BKg2 := n_; clear n_
  clear hcg2_0 hfg2_0
  clear hcg2_1 hfg2_1
  have n_ := Aside0.mk (blk_below BKg3.out hb_); clear BKg3; have BKg3 := n_; clear n_
  clear hcg3_0 hfg3_0
  clear hcg3_1 hfg3_1
  have n_ := Aside0.mk (below_step HB.out hb_); clear HB; have HB := n_; clear n_
  clear hb_
  have hcg1_0 : W11.cell? ⟨g1, 0, none⟩ = some (.int .i64 a) := (blk_cell BKg1.out 0).trans rfl
  have hfg1_0 := blk_frozen BKg1.out 0
  have hcg1_1 : W11.cell? ⟨g1, 1, none⟩ = some (.int .i64 b) := (blk_cell BKg1.out 1).trans rfl
  have hfg1_1 := blk_frozen BKg1.out 1
  have hcg2_0 : W11.cell? ⟨g2, 0, none⟩ = some (.int .i64 c) := (blk_cell BKg2.out 0).trans rfl
  have hfg2_0 := blk_frozen BKg2.out 0
  have hcg2_1 : W11.cell? ⟨g2, 1, none⟩ = some (.int .i64 d) := (blk_cell BKg2.out 1).trans rfl
  have hfg2_1 := blk_frozen BKg2.out 1
  have hcg3_0 : W11.cell? ⟨g3, 0, none⟩ = some (.int .i64 (midI a c)) := (blk_cell BKg3.out 0).trans rfl
  have hfg3_0 := blk_frozen BKg3.out 0
  have hcg3_1 : W11.cell? ⟨g3, 1, none⟩ = some (.int .i64 (midI b d)) := (blk_cell BKg3.out 1).trans rfl
  have hfg3_1 := blk_frozen BKg3.out 1
  go_wp2_with (first | ((with_reducible refine gate_dst (N := 15) rfl ?_); refine box_event ?hg (N := 15) ?hd (cs := #[.int .i64 0, .int .i64 0]) (t := 23) ?hr ?_; (case hd => rfl); (case hg => rfl); (case hr => first | (go_simp; done) | (go_simp; rfl)); intro g4 hg_ W12 hbox_ hb_; have GEg4 := Aside0.mk ((by rw [hg_]; exact (below_size HB.out)) : w.heap.size ≤ g4); have NBg1_g4 : g1 ≠ g4 := (by rw [hg_]; exact Nat.ne_of_lt (blk_lt BKg1.out)); have NBg4_g1 : g4 ≠ g1 := Ne.symm NBg1_g4; have NBg2_g4 : g2 ≠ g4 := (by rw [hg_]; exact Nat.ne_of_lt (blk_lt BKg2.out)); have NBg4_g2 : g4 ≠ g2 := Ne.symm NBg2_g4; have NBg3_g4 : g3 ≠ g4 := (by rw [hg_]; exact Nat.ne_of_lt (blk_lt BKg3.out)); have NBg4_g3 : g4 ≠ g3 := Ne.symm NBg3_g4; clear hg_; have n_ := Aside0.mk (blk_below BKg1.out hb_); clear BKg1; have BKg1 := n_; clear n_; clear hcg1_0 hfg1_0; clear hcg1_1 hfg1_1; have n_ := Aside0.mk (blk_below BKg2.out hb_); clear BKg2; have BKg2 := n_; clear n_; clear hcg2_0 hfg2_0; clear hcg2_1 hfg2_1; have n_ := Aside0.mk (blk_below BKg3.out hb_); clear BKg3; have BKg3 := n_; clear n_; clear hcg3_0 hfg3_0; clear hcg3_1 hfg3_1; have n_ := Aside0.mk (below_step HB.out hb_); clear HB; have HB := n_; clear n_; have BKg4 := Aside0.mk hbox_; clear hbox_ hb_; have hcg1_0 : W12.cell? ⟨g1, 0, none⟩ = some (.int .i64 a) := (blk_cell BKg1.out 0).trans rfl; have hfg1_0 := blk_frozen BKg1.out 0; have hcg1_1 : W12.cell? ⟨g1, 1, none⟩ = some (.int .i64 b) := (blk_cell BKg1.out 1).trans rfl; have hfg1_1 := blk_frozen BKg1.out 1; have hcg2_0 : W12.cell? ⟨g2, 0, none⟩ = some (.int .i64 c) := (blk_cell BKg2.out 0).trans rfl; have hfg2_0 := blk_frozen BKg2.out 0; have hcg2_1 : W12.cell? ⟨g2, 1, none⟩ = some (.int .i64 d) := (blk_cell BKg2.out 1).trans rfl; have hfg2_1 := blk_frozen BKg2.out 1; have hcg3_0 : W12.cell? ⟨g3, 0, none⟩ = some (.int .i64 (midI a c)) := (blk_cell BKg3.out 0).trans rfl; have hfg3_0 := blk_frozen BKg3.out 0; have hcg3_1 : W12.cell? ⟨g3, 1, none⟩ = some (.int .i64 (midI b d)) := (blk_cell BKg3.out 1).trans rfl; have hfg3_1 := blk_frozen BKg3.out 1; have hcg4_0 : W12.cell? ⟨g4, 0, none⟩ = some (.int .i64 0) := (blk_cell BKg4.out 0).trans rfl; have hfg4_0 := blk_frozen BKg4.out 0; have hcg4_1 : W12.cell? ⟨g4, 1, none⟩ = some (.int .i64 0) := (blk_cell BKg4.out 1).trans rfl; have hfg4_1 := blk_frozen BKg4.out 1))
  have n_ : Aside0 (((W12.setCell ⟨g4, 0, none⟩ (.int .i64 (clampI a r))).setCell ⟨g4, 1, none⟩ (.int .i64 (clampI b r))).heap[g4]? = some (.cells #[.int .i64 (clampI a r), .int .i64 (clampI b r)] 23 (0, 0))) := ⟨by refine blk_put (cs := #[.int .i64 (clampI a r), .int .i64 0]) ?_ 1 _ rfl; refine blk_put (cs := #[.int .i64 0, .int .i64 0]) ?_ 0 _ rfl; exact BKg4.out⟩
  have m_ : Aside0 (((W12.setCell ⟨g4, 0, none⟩ (.int .i64 (clampI a r))).setCell ⟨g4, 1, none⟩ (.int .i64 (clampI b r))).heap[g1]? = some (.cells #[.int .i64 a, .int .i64 b] 23 (0, 0))) := ⟨(blk_far (blk_far BKg1.out NBg1_g4 _) NBg1_g4 _)⟩
  clear BKg1; have BKg1 := m_; clear m_
  have m_ : Aside0 (((W12.setCell ⟨g4, 0, none⟩ (.int .i64 (clampI a r))).setCell ⟨g4, 1, none⟩ (.int .i64 (clampI b r))).heap[g2]? = some (.cells #[.int .i64 c, .int .i64 d] 23 (0, 0))) := ⟨(blk_far (blk_far BKg2.out NBg2_g4 _) NBg2_g4 _)⟩
  clear BKg2; have BKg2 := m_; clear m_
  have m_ : Aside0 (((W12.setCell ⟨g4, 0, none⟩ (.int .i64 (clampI a r))).setCell ⟨g4, 1, none⟩ (.int .i64 (clampI b r))).heap[g3]? = some (.cells #[.int .i64 (midI a c), .int .i64 (midI b d)] 23 (0, 0))) := ⟨(blk_far (blk_far BKg3.out NBg3_g4 _) NBg3_g4 _)⟩
  clear BKg3; have BKg3 := m_; clear m_
  have b_ : Aside0 (Below w.heap.size w ((W12.setCell ⟨g4, 0, none⟩ (.int .i64 (clampI a r))).setCell ⟨g4, 1, none⟩ (.int .i64 (clampI b r)))) := ⟨(below_set (below_set HB.out GEg4.out) GEg4.out)⟩
  clear BKg4 HB; have BKg4 := n_; have HB := b_; clear n_ b_
  clear hcg1_0 hfg1_0
  clear hcg1_1 hfg1_1
  clear hcg2_0 hfg2_0
  clear hcg2_1 hfg2_1
  clear hcg3_0 hfg3_0
  clear hcg3_1 hfg3_1
  clear hcg4_0 hfg4_0
  clear hcg4_1 hfg4_1
  generalize ((W12.setCell ⟨g4, 0, none⟩ (.int .i64 (clampI a r))).setCell ⟨g4, 1, none⟩ (.int .i64 (clampI b r))) = W13 at *
  have hcg1_0 : W13.cell? ⟨g1, 0, none⟩ = some (.int .i64 a) := (blk_cell BKg1.out 0).trans rfl
  have hfg1_0 := blk_frozen BKg1.out 0
  have hcg1_1 : W13.cell? ⟨g1, 1, none⟩ = some (.int .i64 b) := (blk_cell BKg1.out 1).trans rfl
  have hfg1_1 := blk_frozen BKg1.out 1
  have hcg2_0 : W13.cell? ⟨g2, 0, none⟩ = some (.int .i64 c) := (blk_cell BKg2.out 0).trans rfl
  have hfg2_0 := blk_frozen BKg2.out 0
  have hcg2_1 : W13.cell? ⟨g2, 1, none⟩ = some (.int .i64 d) := (blk_cell BKg2.out 1).trans rfl
  have hfg2_1 := blk_frozen BKg2.out 1
  have hcg3_0 : W13.cell? ⟨g3, 0, none⟩ = some (.int .i64 (midI a c)) := (blk_cell BKg3.out 0).trans rfl
  have hfg3_0 := blk_frozen BKg3.out 0
  have hcg3_1 : W13.cell? ⟨g3, 1, none⟩ = some (.int .i64 (midI b d)) := (blk_cell BKg3.out 1).trans rfl
  have hfg3_1 := blk_frozen BKg3.out 1
  have hcg4_0 : W13.cell? ⟨g4, 0, none⟩ = some (.int .i64 (clampI a r)) := (blk_cell BKg4.out 0).trans rfl
  have hfg4_0 := blk_frozen BKg4.out 0
  have hcg4_1 : W13.cell? ⟨g4, 1, none⟩ = some (.int .i64 (clampI b r)) := (blk_cell BKg4.out 1).trans rfl
  have hfg4_1 := blk_frozen BKg4.out 1
  ((with_reducible refine (vclamp_yes _ _ _ _ hpos r2).mono ?_); rintro e_ W14 ⟨rfl, hb_⟩)
  have n_ := Aside0.mk (blk_below BKg1.out hb_); clear BKg1; have BKg1 := n_; clear n_
  clear hcg1_0 hfg1_0
  clear hcg1_1 hfg1_1
  have n_ := Aside0.mk (blk_below BKg2.out hb_); clear BKg2; have BKg2 := n_; clear n_
  clear hcg2_0 hfg2_0
  clear hcg2_1 hfg2_1
  have n_ := Aside0.mk (blk_below BKg3.out hb_); clear BKg3; have BKg3 := n_; clear n_
  clear hcg3_0 hfg3_0
  clear hcg3_1 hfg3_1
  have n_ := Aside0.mk (blk_below BKg4.out hb_); clear BKg4; have BKg4 := n_; clear n_
  clear hcg4_0 hfg4_0
  clear hcg4_1 hfg4_1
  have n_ := Aside0.mk (below_step HB.out hb_); clear HB; have HB := n_; clear n_
  clear hb_
  have hcg1_0 : W14.cell? ⟨g1, 0, none⟩ = some (.int .i64 a) := (blk_cell BKg1.out 0).trans rfl
  have hfg1_0 := blk_frozen BKg1.out 0
  have hcg1_1 : W14.cell? ⟨g1, 1, none⟩ = some (.int .i64 b) := (blk_cell BKg1.out 1).trans rfl
  have hfg1_1 := blk_frozen BKg1.out 1
  have hcg2_0 : W14.cell? ⟨g2, 0, none⟩ = some (.int .i64 c) := (blk_cell BKg2.out 0).trans rfl
  have hfg2_0 := blk_frozen BKg2.out 0
  have hcg2_1 : W14.cell? ⟨g2, 1, none⟩ = some (.int .i64 d) := (blk_cell BKg2.out 1).trans rfl
  have hfg2_1 := blk_frozen BKg2.out 1
  have hcg3_0 : W14.cell? ⟨g3, 0, none⟩ = some (.int .i64 (midI a c)) := (blk_cell BKg3.out 0).trans rfl
  have hfg3_0 := blk_frozen BKg3.out 0
  have hcg3_1 : W14.cell? ⟨g3, 1, none⟩ = some (.int .i64 (midI b d)) := (blk_cell BKg3.out 1).trans rfl
  have hfg3_1 := blk_frozen BKg3.out 1
  have hcg4_0 : W14.cell? ⟨g4, 0, none⟩ = some (.int .i64 (clampI a r)) := (blk_cell BKg4.out 0).trans rfl
  have hfg4_0 := blk_frozen BKg4.out 0
  have hcg4_1 : W14.cell? ⟨g4, 1, none⟩ = some (.int .i64 (clampI b r)) := (blk_cell BKg4.out 1).trans rfl
  have hfg4_1 := blk_frozen BKg4.out 1
  rw [k1, k2]
  go_wp2_with (first | ((with_reducible refine gate_dst (N := 17) rfl ?_); refine box_event ?hg (N := 17) ?hd (cs := #[.int .i64 0, .int .i64 0]) (t := 23) ?hr ?_; (case hd => rfl); (case hg => rfl); (case hr => first | (go_simp; done) | (go_simp; rfl)); intro g5 hg_ W15 hbox_ hb_; have GEg5 := Aside0.mk ((by rw [hg_]; exact (below_size HB.out)) : w.heap.size ≤ g5); have NBg1_g5 : g1 ≠ g5 := (by rw [hg_]; exact Nat.ne_of_lt (blk_lt BKg1.out)); have NBg5_g1 : g5 ≠ g1 := Ne.symm NBg1_g5; have NBg2_g5 : g2 ≠ g5 := (by rw [hg_]; exact Nat.ne_of_lt (blk_lt BKg2.out)); have NBg5_g2 : g5 ≠ g2 := Ne.symm NBg2_g5; have NBg3_g5 : g3 ≠ g5 := (by rw [hg_]; exact Nat.ne_of_lt (blk_lt BKg3.out)); have NBg5_g3 : g5 ≠ g3 := Ne.symm NBg3_g5; have NBg4_g5 : g4 ≠ g5 := (by rw [hg_]; exact Nat.ne_of_lt (blk_lt BKg4.out)); have NBg5_g4 : g5 ≠ g4 := Ne.symm NBg4_g5; clear hg_; have n_ := Aside0.mk (blk_below BKg1.out hb_); clear BKg1; have BKg1 := n_; clear n_; clear hcg1_0 hfg1_0; clear hcg1_1 hfg1_1; have n_ := Aside0.mk (blk_below BKg2.out hb_); clear BKg2; have BKg2 := n_; clear n_; clear hcg2_0 hfg2_0; clear hcg2_1 hfg2_1; have n_ := Aside0.mk (blk_below BKg3.out hb_); clear BKg3; have BKg3 := n_; clear n_; clear hcg3_0 hfg3_0; clear hcg3_1 hfg3_1; have n_ := Aside0.mk (blk_below BKg4.out hb_); clear BKg4; have BKg4 := n_; clear n_; clear hcg4_0 hfg4_0; clear hcg4_1 hfg4_1; have n_ := Aside0.mk (below_step HB.out hb_); clear HB; have HB := n_; clear n_; have BKg5 := Aside0.mk hbox_; clear hbox_ hb_; have hcg1_0 : W15.cell? ⟨g1, 0, none⟩ = some (.int .i64 a) := (blk_cell BKg1.out 0).trans rfl; have hfg1_0 := blk_frozen BKg1.out 0; have hcg1_1 : W15.cell? ⟨g1, 1, none⟩ = some (.int .i64 b) := (blk_cell BKg1.out 1).trans rfl; have hfg1_1 := blk_frozen BKg1.out 1; have hcg2_0 : W15.cell? ⟨g2, 0, none⟩ = some (.int .i64 c) := (blk_cell BKg2.out 0).trans rfl; have hfg2_0 := blk_frozen BKg2.out 0; have hcg2_1 : W15.cell? ⟨g2, 1, none⟩ = some (.int .i64 d) := (blk_cell BKg2.out 1).trans rfl; have hfg2_1 := blk_frozen BKg2.out 1; have hcg3_0 : W15.cell? ⟨g3, 0, none⟩ = some (.int .i64 (midI a c)) := (blk_cell BKg3.out 0).trans rfl; have hfg3_0 := blk_frozen BKg3.out 0; have hcg3_1 : W15.cell? ⟨g3, 1, none⟩ = some (.int .i64 (midI b d)) := (blk_cell BKg3.out 1).trans rfl; have hfg3_1 := blk_frozen BKg3.out 1; have hcg4_0 : W15.cell? ⟨g4, 0, none⟩ = some (.int .i64 (clampI a r)) := (blk_cell BKg4.out 0).trans rfl; have hfg4_0 := blk_frozen BKg4.out 0; have hcg4_1 : W15.cell? ⟨g4, 1, none⟩ = some (.int .i64 (clampI b r)) := (blk_cell BKg4.out 1).trans rfl; have hfg4_1 := blk_frozen BKg4.out 1; have hcg5_0 : W15.cell? ⟨g5, 0, none⟩ = some (.int .i64 0) := (blk_cell BKg5.out 0).trans rfl; have hfg5_0 := blk_frozen BKg5.out 0; have hcg5_1 : W15.cell? ⟨g5, 1, none⟩ = some (.int .i64 0) := (blk_cell BKg5.out 1).trans rfl; have hfg5_1 := blk_frozen BKg5.out 1))
  have n_ : Aside0 (((W15.setCell ⟨g5, 0, none⟩ (.int .i64 (clampI a r))).setCell ⟨g5, 1, none⟩ (.int .i64 (clampI b r))).heap[g5]? = some (.cells #[.int .i64 (clampI a r), .int .i64 (clampI b r)] 23 (0, 0))) := ⟨by refine blk_put (cs := #[.int .i64 (clampI a r), .int .i64 0]) ?_ 1 _ rfl; refine blk_put (cs := #[.int .i64 0, .int .i64 0]) ?_ 0 _ rfl; exact BKg5.out⟩
  have m_ : Aside0 (((W15.setCell ⟨g5, 0, none⟩ (.int .i64 (clampI a r))).setCell ⟨g5, 1, none⟩ (.int .i64 (clampI b r))).heap[g1]? = some (.cells #[.int .i64 a, .int .i64 b] 23 (0, 0))) := ⟨(blk_far (blk_far BKg1.out NBg1_g5 _) NBg1_g5 _)⟩
  clear BKg1; have BKg1 := m_; clear m_
  have m_ : Aside0 (((W15.setCell ⟨g5, 0, none⟩ (.int .i64 (clampI a r))).setCell ⟨g5, 1, none⟩ (.int .i64 (clampI b r))).heap[g2]? = some (.cells #[.int .i64 c, .int .i64 d] 23 (0, 0))) := ⟨(blk_far (blk_far BKg2.out NBg2_g5 _) NBg2_g5 _)⟩
  clear BKg2; have BKg2 := m_; clear m_
  have m_ : Aside0 (((W15.setCell ⟨g5, 0, none⟩ (.int .i64 (clampI a r))).setCell ⟨g5, 1, none⟩ (.int .i64 (clampI b r))).heap[g3]? = some (.cells #[.int .i64 (midI a c), .int .i64 (midI b d)] 23 (0, 0))) := ⟨(blk_far (blk_far BKg3.out NBg3_g5 _) NBg3_g5 _)⟩
  clear BKg3; have BKg3 := m_; clear m_
  have m_ : Aside0 (((W15.setCell ⟨g5, 0, none⟩ (.int .i64 (clampI a r))).setCell ⟨g5, 1, none⟩ (.int .i64 (clampI b r))).heap[g4]? = some (.cells #[.int .i64 (clampI a r), .int .i64 (clampI b r)] 23 (0, 0))) := ⟨(blk_far (blk_far BKg4.out NBg4_g5 _) NBg4_g5 _)⟩
  clear BKg4; have BKg4 := m_; clear m_
  have b_ : Aside0 (Below w.heap.size w ((W15.setCell ⟨g5, 0, none⟩ (.int .i64 (clampI a r))).setCell ⟨g5, 1, none⟩ (.int .i64 (clampI b r)))) := ⟨(below_set (below_set HB.out GEg5.out) GEg5.out)⟩
  clear BKg5 HB; have BKg5 := n_; have HB := b_; clear n_ b_
  clear hcg1_0 hfg1_0
  clear hcg1_1 hfg1_1
  clear hcg2_0 hfg2_0
  clear hcg2_1 hfg2_1
  clear hcg3_0 hfg3_0
  clear hcg3_1 hfg3_1
  clear hcg4_0 hfg4_0
  clear hcg4_1 hfg4_1
  clear hcg5_0 hfg5_0
  clear hcg5_1 hfg5_1
  generalize ((W15.setCell ⟨g5, 0, none⟩ (.int .i64 (clampI a r))).setCell ⟨g5, 1, none⟩ (.int .i64 (clampI b r))) = W16 at *
  have hcg1_0 : W16.cell? ⟨g1, 0, none⟩ = some (.int .i64 a) := (blk_cell BKg1.out 0).trans rfl
  have hfg1_0 := blk_frozen BKg1.out 0
  have hcg1_1 : W16.cell? ⟨g1, 1, none⟩ = some (.int .i64 b) := (blk_cell BKg1.out 1).trans rfl
  have hfg1_1 := blk_frozen BKg1.out 1
  have hcg2_0 : W16.cell? ⟨g2, 0, none⟩ = some (.int .i64 c) := (blk_cell BKg2.out 0).trans rfl
  have hfg2_0 := blk_frozen BKg2.out 0
  have hcg2_1 : W16.cell? ⟨g2, 1, none⟩ = some (.int .i64 d) := (blk_cell BKg2.out 1).trans rfl
  have hfg2_1 := blk_frozen BKg2.out 1
  have hcg3_0 : W16.cell? ⟨g3, 0, none⟩ = some (.int .i64 (midI a c)) := (blk_cell BKg3.out 0).trans rfl
  have hfg3_0 := blk_frozen BKg3.out 0
  have hcg3_1 : W16.cell? ⟨g3, 1, none⟩ = some (.int .i64 (midI b d)) := (blk_cell BKg3.out 1).trans rfl
  have hfg3_1 := blk_frozen BKg3.out 1
  have hcg4_0 : W16.cell? ⟨g4, 0, none⟩ = some (.int .i64 (clampI a r)) := (blk_cell BKg4.out 0).trans rfl
  have hfg4_0 := blk_frozen BKg4.out 0
  have hcg4_1 : W16.cell? ⟨g4, 1, none⟩ = some (.int .i64 (clampI b r)) := (blk_cell BKg4.out 1).trans rfl
  have hfg4_1 := blk_frozen BKg4.out 1
  have hcg5_0 : W16.cell? ⟨g5, 0, none⟩ = some (.int .i64 (clampI a r)) := (blk_cell BKg5.out 0).trans rfl
  have hfg5_0 := blk_frozen BKg5.out 0
  have hcg5_1 : W16.cell? ⟨g5, 1, none⟩ = some (.int .i64 (clampI b r)) := (blk_cell BKg5.out 1).trans rfl
  have hfg5_1 := blk_frozen BKg5.out 1
  go_outline
  ((with_reducible refine (vnear_calls _ _ _ _ _ _ hca hcb hz hz hr).mono ?_); rintro e_ W17 ⟨rfl, hb_⟩)
  have n_ := Aside0.mk (blk_below BKg1.out hb_); clear BKg1; have BKg1 := n_; clear n_
  clear hcg1_0 hfg1_0
  clear hcg1_1 hfg1_1
  have n_ := Aside0.mk (blk_below BKg2.out hb_); clear BKg2; have BKg2 := n_; clear n_
  clear hcg2_0 hfg2_0
  clear hcg2_1 hfg2_1
  have n_ := Aside0.mk (blk_below BKg3.out hb_); clear BKg3; have BKg3 := n_; clear n_
  clear hcg3_0 hfg3_0
  clear hcg3_1 hfg3_1
  have n_ := Aside0.mk (blk_below BKg4.out hb_); clear BKg4; have BKg4 := n_; clear n_
  clear hcg4_0 hfg4_0
  clear hcg4_1 hfg4_1
  have n_ := Aside0.mk (blk_below BKg5.out hb_); clear BKg5; have BKg5 := n_; clear n_
  clear hcg5_0 hfg5_0
  clear hcg5_1 hfg5_1
  have n_ := Aside0.mk (below_step HB.out hb_); clear HB; have HB := n_; clear n_
  clear hb_
  have hcg1_0 : W17.cell? ⟨g1, 0, none⟩ = some (.int .i64 a) := (blk_cell BKg1.out 0).trans rfl
  have hfg1_0 := blk_frozen BKg1.out 0
  have hcg1_1 : W17.cell? ⟨g1, 1, none⟩ = some (.int .i64 b) := (blk_cell BKg1.out 1).trans rfl
  have hfg1_1 := blk_frozen BKg1.out 1
  have hcg2_0 : W17.cell? ⟨g2, 0, none⟩ = some (.int .i64 c) := (blk_cell BKg2.out 0).trans rfl
  have hfg2_0 := blk_frozen BKg2.out 0
  have hcg2_1 : W17.cell? ⟨g2, 1, none⟩ = some (.int .i64 d) := (blk_cell BKg2.out 1).trans rfl
  have hfg2_1 := blk_frozen BKg2.out 1
  have hcg3_0 : W17.cell? ⟨g3, 0, none⟩ = some (.int .i64 (midI a c)) := (blk_cell BKg3.out 0).trans rfl
  have hfg3_0 := blk_frozen BKg3.out 0
  have hcg3_1 : W17.cell? ⟨g3, 1, none⟩ = some (.int .i64 (midI b d)) := (blk_cell BKg3.out 1).trans rfl
  have hfg3_1 := blk_frozen BKg3.out 1
  have hcg4_0 : W17.cell? ⟨g4, 0, none⟩ = some (.int .i64 (clampI a r)) := (blk_cell BKg4.out 0).trans rfl
  have hfg4_0 := blk_frozen BKg4.out 0
  have hcg4_1 : W17.cell? ⟨g4, 1, none⟩ = some (.int .i64 (clampI b r)) := (blk_cell BKg4.out 1).trans rfl
  have hfg4_1 := blk_frozen BKg4.out 1
  have hcg5_0 : W17.cell? ⟨g5, 0, none⟩ = some (.int .i64 (clampI a r)) := (blk_cell BKg5.out 0).trans rfl
  have hfg5_0 := blk_frozen BKg5.out 0
  have hcg5_1 : W17.cell? ⟨g5, 1, none⟩ = some (.int .i64 (clampI b r)) := (blk_cell BKg5.out 1).trans rfl
  have hfg5_1 := blk_frozen BKg5.out 1
  go_wp2_with fail
  ((with_reducible refine (vnear_calls _ _ _ _ _ _ ha hb ha hb (mx_I64 hr hz)).mono ?_); rintro e_ W18 ⟨rfl, hb_⟩)
  have n_ := Aside0.mk (blk_below BKg1.out hb_); clear BKg1; have BKg1 := n_; clear n_
  clear hcg1_0 hfg1_0
  clear hcg1_1 hfg1_1
  have n_ := Aside0.mk (blk_below BKg2.out hb_); clear BKg2; have BKg2 := n_; clear n_
  clear hcg2_0 hfg2_0
  clear hcg2_1 hfg2_1
  have n_ := Aside0.mk (blk_below BKg3.out hb_); clear BKg3; have BKg3 := n_; clear n_
  clear hcg3_0 hfg3_0
  clear hcg3_1 hfg3_1
  have n_ := Aside0.mk (blk_below BKg4.out hb_); clear BKg4; have BKg4 := n_; clear n_
  clear hcg4_0 hfg4_0
  clear hcg4_1 hfg4_1
  have n_ := Aside0.mk (blk_below BKg5.out hb_); clear BKg5; have BKg5 := n_; clear n_
  clear hcg5_0 hfg5_0
  clear hcg5_1 hfg5_1
  have n_ := Aside0.mk (below_step HB.out hb_); clear HB; have HB := n_; clear n_
  clear hb_
  have hcg1_0 : W18.cell? ⟨g1, 0, none⟩ = some (.int .i64 a) := (blk_cell BKg1.out 0).trans rfl
  have hfg1_0 := blk_frozen BKg1.out 0
  have hcg1_1 : W18.cell? ⟨g1, 1, none⟩ = some (.int .i64 b) := (blk_cell BKg1.out 1).trans rfl
  have hfg1_1 := blk_frozen BKg1.out 1
  have hcg2_0 : W18.cell? ⟨g2, 0, none⟩ = some (.int .i64 c) := (blk_cell BKg2.out 0).trans rfl
  have hfg2_0 := blk_frozen BKg2.out 0
  have hcg2_1 : W18.cell? ⟨g2, 1, none⟩ = some (.int .i64 d) := (blk_cell BKg2.out 1).trans rfl
  have hfg2_1 := blk_frozen BKg2.out 1
  have hcg3_0 : W18.cell? ⟨g3, 0, none⟩ = some (.int .i64 (midI a c)) := (blk_cell BKg3.out 0).trans rfl
  have hfg3_0 := blk_frozen BKg3.out 0
  have hcg3_1 : W18.cell? ⟨g3, 1, none⟩ = some (.int .i64 (midI b d)) := (blk_cell BKg3.out 1).trans rfl
  have hfg3_1 := blk_frozen BKg3.out 1
  have hcg4_0 : W18.cell? ⟨g4, 0, none⟩ = some (.int .i64 (clampI a r)) := (blk_cell BKg4.out 0).trans rfl
  have hfg4_0 := blk_frozen BKg4.out 0
  have hcg4_1 : W18.cell? ⟨g4, 1, none⟩ = some (.int .i64 (clampI b r)) := (blk_cell BKg4.out 1).trans rfl
  have hfg4_1 := blk_frozen BKg4.out 1
  have hcg5_0 : W18.cell? ⟨g5, 0, none⟩ = some (.int .i64 (clampI a r)) := (blk_cell BKg5.out 0).trans rfl
  have hfg5_0 := blk_frozen BKg5.out 0
  have hcg5_1 : W18.cell? ⟨g5, 1, none⟩ = some (.int .i64 (clampI b r)) := (blk_cell BKg5.out 1).trans rfl
  have hfg5_1 := blk_frozen BKg5.out 1
  go_wp2
  go_ret
  exact ⟨rfl, (by repeat (first | (with_reducible first | exact HB.out | apply below_alloc | apply pw_below_drewN | apply below_drew1) | exact HB.out))⟩

theorem vecnear_any (a b c d r more : Int) (w : World) (ha : I64 a) (hb : I64 b) (hc : I64 c) (hd : I64 d) (hr : I64 r) (hm : I64 more) :
    Calls Try.prog 4 #[.agg #[.int .i64 a, .int .i64 b], .agg #[.int .i64 c, .int .i64 d], .int .i64 r, .int .i64 more] w fun e w' => e = .returned (.bool true) ∧ Below w.heap.size w w' := by
  by_cases h : r < 0
  · exact vecnear_1 a b c d r more w ha hb hc hd hr hm h
  · cases hp : nearB a b c d r with
    | true => exact vecnear_2 a b c d r more w ha hb hc hd hr hm (by omega) hp
    | false => exact vecnear_3 a b c d r more w ha hb hc hd hr hm (by omega) hp
end Go.Proofs.Ytjknihjdhccanaa
