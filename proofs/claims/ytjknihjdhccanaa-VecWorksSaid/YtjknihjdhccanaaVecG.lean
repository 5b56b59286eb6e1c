/- The small case of layer 5's statements, and a number without its sign. -/
import Derived.Test.YtjknihjdhccanaaVecF
namespace Go.Proofs.Ytjknihjdhccanaa
open Go.RowKit Go.Proofs.YtjknihjdhccanaaW.PrintWords Go.Proofs.YtjknihjdhccanaaW.PrintLast Go.Proofs.YtjknihjdhccanaaW.PrintMore
set_option linter.unusedVariables false
set_option linter.unusedSimpArgs false

theorem i64_small (a : Int) (h : -9223372036854775808 ≤ a) (g : a ≤ 9223372036854775807) : I64 a := ⟨h, g⟩

theorem aw_clamp (w : World) : Calls Try.prog 14 #[.agg #[.int .i64 5, .int .i64 (-7)], .int .i64 6] w
    fun e w' => e = .returned (.tuple #[.agg #[.int .i64 5, .int .i64 (-6)], .int .i64 0]) ∧ Below w.heap.size w w' :=
  (vclamp_yes 5 (-7) 6 w (by omega) (by omega)).mono fun _ _ h => ⟨h.1.trans (by simp [clampI, max2, min2]), h.2⟩
theorem aw_add (w : World) : Calls Try.prog 18 #[.agg #[.int .i64 1, .int .i64 9223372036854775807], .agg #[.int .i64 2, .int .i64 1]] w
    fun e w' => e = .returned (.agg #[.int .i64 3, .int .i64 9223372036854775807]) ∧ Below w.heap.size w w' :=
  (vadd_calls 1 9223372036854775807 2 1 w (i64_small _ (by omega) (by omega)) (i64_small _ (by omega) (by omega)) (i64_small _ (by omega) (by omega)) (i64_small _ (by omega) (by omega))).mono fun _ _ h => ⟨h.1.trans (by simp [sat]), h.2⟩
theorem aw_dot (w : World) : Calls Try.prog 15 #[.agg #[.int .i64 8589934592, .int .i64 4294967296], .agg #[.int .i64 12884901888, .int .i64 17179869184]] w
    fun e w' => e = .returned (.int .i64 42949672960) ∧ Below w.heap.size w w' :=
  (vdot_calls 8589934592 4294967296 12884901888 17179869184 w (i64_small _ (by omega) (by omega)) (i64_small _ (by omega) (by omega)) (i64_small _ (by omega) (by omega)) (i64_small _ (by omega) (by omega))).mono fun _ _ h => ⟨h.1.trans (ret_int (by decide +kernel)), h.2⟩
theorem root_of_25 {r : Int} (h : LRel 63 (vecS 3 4) 0 r) : r = 5 := by
  have h1 := h.low
  have h2 := h.high
  have h3 := h.pos
  have e : vecS 3 4 = 25 := by decide
  have e2 : two 63 = 9223372036854775808 := by decide
  rw [e] at h1 h2
  rw [e2, two_zero] at h2
  rcases Int.lt_or_le r 6 with c | c
  · have : r = 0 ∨ r = 1 ∨ r = 2 ∨ r = 3 ∨ r = 4 ∨ r = 5 := by omega
    rcases this with rfl | rfl | rfl | rfl | rfl | rfl <;> omega
  · have : 6 * 6 ≤ r * r := Int.mul_le_mul c c (by omega) (by omega)
    omega
theorem aw_long (w : World) : Calls Try.prog 9 #[.agg #[.int .i64 3, .int .i64 4]] w
    fun e w' => e = .returned (.int .i64 5) ∧ Below w.heap.size w w' :=
  (long_calls 3 4 w (i64_small _ (by omega) (by omega)) (i64_small _ (by omega) (by omega))).mono fun _ _ ⟨r, h, g, b⟩ => ⟨h.trans (ret_int (root_of_25 g)), b⟩
theorem aw_near (w : World) : Calls Try.prog 12 #[.agg #[.int .i64 0, .int .i64 0], .agg #[.int .i64 3, .int .i64 (-3)], .int .i64 3] w
    fun e w' => e = .returned (.bool true) ∧ Below w.heap.size w w' :=
  (vnear_calls 0 0 3 (-3) 3 w (i64_small _ (by omega) (by omega)) (i64_small _ (by omega) (by omega)) (i64_small _ (by omega) (by omega)) (i64_small _ (by omega) (by omega)) (i64_small _ (by omega) (by omega))).mono fun _ _ h => ⟨h.1.trans (ret_bool (by decide +kernel)), h.2⟩
theorem aw_mean (w : World) : Calls Try.prog 13 #[.agg #[.int .i64 1, .int .i64 (-1)], .agg #[.int .i64 2, .int .i64 (-2)]] w
    fun e w' => e = .returned (.agg #[.int .i64 1, .int .i64 (-2)]) ∧ Below w.heap.size w w' :=
  (vmean_calls 1 (-1) 2 (-2) w).mono fun _ _ h => ⟨h.1.trans (by rw [show midI 1 2 = 1 from by decide +kernel, show midI (-1) (-2) = -2 from by decide +kernel]), h.2⟩
set_option maxHeartbeats 2000000 in
set_option maxRecDepth 100000 in
theorem awake_calls  (w : World)  :
    Calls Try.prog 8 #[] w
      fun e w' => e = .returned (.bool true) ∧ Below w.heap.size w w' := by
  have HB := Aside0.mk (Below.refl w.heap.size w)
  go_enter Try.func8, Try.ntmps8
  go_wp2_with fail
  ((with_reducible refine (aw_clamp _).mono ?_); rintro e_ W1 ⟨rfl, hb_⟩)
  have n_ := Aside0.mk (below_step HB.out hb_); clear HB; have HB := n_; clear n_
  clear hb_
  go_wp2_with (first | ((with_reducible refine gate_dst (N := 1) rfl ?_); refine box_event ?hg (N := 1) ?hd (cs := #[.int .i64 0, .int .i64 0]) (t := 23) ?hr ?_; (case hd => rfl); (case hg => rfl); (case hr => first | (go_simp; done) | (go_simp; rfl)); intro g1 hg_ W2 hbox_ hb_; have GEg1 := Aside0.mk ((by rw [hg_]; exact (below_size HB.out)) : w.heap.size ≤ g1); clear hg_; have n_ := Aside0.mk (below_step HB.out hb_); clear HB; have HB := n_; clear n_; have BKg1 := Aside0.mk hbox_; clear hbox_ hb_; have hcg1_0 : W2.cell? ⟨g1, 0, none⟩ = some (.int .i64 0) := (blk_cell BKg1.out 0).trans rfl; have hfg1_0 := blk_frozen BKg1.out 0; have hcg1_1 : W2.cell? ⟨g1, 1, none⟩ = some (.int .i64 0) := (blk_cell BKg1.out 1).trans rfl; have hfg1_1 := blk_frozen BKg1.out 1))
  have n_ : Aside0 (((W2.setCell ⟨g1, 0, none⟩ (.int .i64 5)).setCell ⟨g1, 1, none⟩ (.int .i64 (-6))).heap[g1]? = some (.cells #[.int .i64 5, .int .i64 (-6)] 23 (0, 0))) := ⟨by refine blk_put (cs := #[.int .i64 5, .int .i64 0]) ?_ 1 _ rfl; refine blk_put (cs := #[.int .i64 0, .int .i64 0]) ?_ 0 _ rfl; exact BKg1.out⟩
  have b_ : Aside0 (Below w.heap.size w ((W2.setCell ⟨g1, 0, none⟩ (.int .i64 5)).setCell ⟨g1, 1, none⟩ (.int .i64 (-6)))) := ⟨(below_set (below_set HB.out GEg1.out) GEg1.out)⟩
  clear BKg1 HB; have BKg1 := n_; have HB := b_; clear n_ b_
  clear hcg1_0 hfg1_0
  clear hcg1_1 hfg1_1
  generalize ((W2.setCell ⟨g1, 0, none⟩ (.int .i64 5)).setCell ⟨g1, 1, none⟩ (.int .i64 (-6))) = W3 at *
  have hcg1_0 : W3.cell? ⟨g1, 0, none⟩ = some (.int .i64 5) := (blk_cell BKg1.out 0).trans rfl
  have hfg1_0 := blk_frozen BKg1.out 0
  have hcg1_1 : W3.cell? ⟨g1, 1, none⟩ = some (.int .i64 (-6)) := (blk_cell BKg1.out 1).trans rfl
  have hfg1_1 := blk_frozen BKg1.out 1
  ((with_reducible refine (vclamp_no 0 0 (-1) _ (by omega)).mono ?_); rintro e_ W4 ⟨rfl, hb_⟩)
  have n_ := Aside0.mk (blk_below BKg1.out hb_); clear BKg1; have BKg1 := n_; clear n_
  clear hcg1_0 hfg1_0
  clear hcg1_1 hfg1_1
  have n_ := Aside0.mk (below_step HB.out hb_); clear HB; have HB := n_; clear n_
  clear hb_
  have hcg1_0 : W4.cell? ⟨g1, 0, none⟩ = some (.int .i64 5) := (blk_cell BKg1.out 0).trans rfl
  have hfg1_0 := blk_frozen BKg1.out 0
  have hcg1_1 : W4.cell? ⟨g1, 1, none⟩ = some (.int .i64 (-6)) := (blk_cell BKg1.out 1).trans rfl
  have hfg1_1 := blk_frozen BKg1.out 1
  go_wp2_with (first | ((with_reducible refine gate_dst (N := 3) rfl ?_); refine box_event ?hg (N := 3) ?hd (cs := #[.int .i64 0, .int .i64 0]) (t := 23) ?hr ?_; (case hd => rfl); (case hg => rfl); (case hr => first | (go_simp; done) | (go_simp; rfl)); intro g3 hg_ W5 hbox_ hb_; have GEg3 := Aside0.mk ((by rw [hg_]; exact (below_size HB.out)) : w.heap.size ≤ g3); have NBg1_g3 : g1 ≠ g3 := (by rw [hg_]; exact Nat.ne_of_lt (blk_lt BKg1.out)); have NBg3_g1 : g3 ≠ g1 := Ne.symm NBg1_g3; clear hg_; have n_ := Aside0.mk (blk_below BKg1.out hb_); clear BKg1; have BKg1 := n_; clear n_; clear hcg1_0 hfg1_0; clear hcg1_1 hfg1_1; have n_ := Aside0.mk (below_step HB.out hb_); clear HB; have HB := n_; clear n_; have BKg3 := Aside0.mk hbox_; clear hbox_ hb_; have hcg1_0 : W5.cell? ⟨g1, 0, none⟩ = some (.int .i64 5) := (blk_cell BKg1.out 0).trans rfl; have hfg1_0 := blk_frozen BKg1.out 0; have hcg1_1 : W5.cell? ⟨g1, 1, none⟩ = some (.int .i64 (-6)) := (blk_cell BKg1.out 1).trans rfl; have hfg1_1 := blk_frozen BKg1.out 1; have hcg3_0 : W5.cell? ⟨g3, 0, none⟩ = some (.int .i64 0) := (blk_cell BKg3.out 0).trans rfl; have hfg3_0 := blk_frozen BKg3.out 0; have hcg3_1 : W5.cell? ⟨g3, 1, none⟩ = some (.int .i64 0) := (blk_cell BKg3.out 1).trans rfl; have hfg3_1 := blk_frozen BKg3.out 1))
  have n_ : Aside0 (((W5.setCell ⟨g3, 0, none⟩ (.int .i64 0)).setCell ⟨g3, 1, none⟩ (.int .i64 0)).heap[g3]? = some (.cells #[.int .i64 0, .int .i64 0] 23 (0, 0))) := ⟨by refine blk_put (cs := #[.int .i64 0, .int .i64 0]) ?_ 1 _ rfl; refine blk_put (cs := #[.int .i64 0, .int .i64 0]) ?_ 0 _ rfl; exact BKg3.out⟩
  have m_ : Aside0 (((W5.setCell ⟨g3, 0, none⟩ (.int .i64 0)).setCell ⟨g3, 1, none⟩ (.int .i64 0)).heap[g1]? = some (.cells #[.int .i64 5, .int .i64 (-6)] 23 (0, 0))) := ⟨(blk_far (blk_far BKg1.out NBg1_g3 _) NBg1_g3 _)⟩
  clear BKg1; have BKg1 := m_; clear m_
  have b_ : Aside0 (Below w.heap.size w ((W5.setCell ⟨g3, 0, none⟩ (.int .i64 0)).setCell ⟨g3, 1, none⟩ (.int .i64 0))) := ⟨(below_set (below_set HB.out GEg3.out) GEg3.out)⟩
  clear BKg3 HB; have BKg3 := n_; have HB := b_; clear n_ b_
  clear hcg1_0 hfg1_0
  clear hcg1_1 hfg1_1
  clear hcg3_0 hfg3_0
  clear hcg3_1 hfg3_1
  generalize ((W5.setCell ⟨g3, 0, none⟩ (.int .i64 0)).setCell ⟨g3, 1, none⟩ (.int .i64 0)) = W6 at *
  have hcg1_0 : W6.cell? ⟨g1, 0, none⟩ = some (.int .i64 5) := (blk_cell BKg1.out 0).trans rfl
  have hfg1_0 := blk_frozen BKg1.out 0
  have hcg1_1 : W6.cell? ⟨g1, 1, none⟩ = some (.int .i64 (-6)) := (blk_cell BKg1.out 1).trans rfl
  have hfg1_1 := blk_frozen BKg1.out 1
  have hcg3_0 : W6.cell? ⟨g3, 0, none⟩ = some (.int .i64 0) := (blk_cell BKg3.out 0).trans rfl
  have hfg3_0 := blk_frozen BKg3.out 0
  have hcg3_1 : W6.cell? ⟨g3, 1, none⟩ = some (.int .i64 0) := (blk_cell BKg3.out 1).trans rfl
  have hfg3_1 := blk_frozen BKg3.out 1
  ((with_reducible refine (aw_add _).mono ?_); rintro e_ W7 ⟨rfl, hb_⟩)
  have n_ := Aside0.mk (blk_below BKg1.out hb_); clear BKg1; have BKg1 := n_; clear n_
  clear hcg1_0 hfg1_0
  clear hcg1_1 hfg1_1
  have n_ := Aside0.mk (blk_below BKg3.out hb_); clear BKg3; have BKg3 := n_; clear n_
  clear hcg3_0 hfg3_0
  clear hcg3_1 hfg3_1
  have n_ := Aside0.mk (below_step HB.out hb_); clear HB; have HB := n_; clear n_
  clear hb_
  have hcg1_0 : W7.cell? ⟨g1, 0, none⟩ = some (.int .i64 5) := (blk_cell BKg1.out 0).trans rfl
  have hfg1_0 := blk_frozen BKg1.out 0
  have hcg1_1 : W7.cell? ⟨g1, 1, none⟩ = some (.int .i64 (-6)) := (blk_cell BKg1.out 1).trans rfl
  have hfg1_1 := blk_frozen BKg1.out 1
  have hcg3_0 : W7.cell? ⟨g3, 0, none⟩ = some (.int .i64 0) := (blk_cell BKg3.out 0).trans rfl
  have hfg3_0 := blk_frozen BKg3.out 0
  have hcg3_1 : W7.cell? ⟨g3, 1, none⟩ = some (.int .i64 0) := (blk_cell BKg3.out 1).trans rfl
  have hfg3_1 := blk_frozen BKg3.out 1
  go_wp2_with fail
  ((with_reducible refine (aw_dot _).mono ?_); rintro e_ W8 ⟨rfl, hb_⟩)
  have n_ := Aside0.mk (blk_below BKg1.out hb_); clear BKg1; have BKg1 := n_; clear n_
  clear hcg1_0 hfg1_0
  clear hcg1_1 hfg1_1
  have n_ := Aside0.mk (blk_below BKg3.out hb_); clear BKg3; have BKg3 := n_; clear n_
  clear hcg3_0 hfg3_0
  clear hcg3_1 hfg3_1
  have n_ := Aside0.mk (below_step HB.out hb_); clear HB; have HB := n_; clear n_
  clear hb_
  have hcg1_0 : W8.cell? ⟨g1, 0, none⟩ = some (.int .i64 5) := (blk_cell BKg1.out 0).trans rfl
  have hfg1_0 := blk_frozen BKg1.out 0
  have hcg1_1 : W8.cell? ⟨g1, 1, none⟩ = some (.int .i64 (-6)) := (blk_cell BKg1.out 1).trans rfl
  have hfg1_1 := blk_frozen BKg1.out 1
  have hcg3_0 : W8.cell? ⟨g3, 0, none⟩ = some (.int .i64 0) := (blk_cell BKg3.out 0).trans rfl
  have hfg3_0 := blk_frozen BKg3.out 0
  have hcg3_1 : W8.cell? ⟨g3, 1, none⟩ = some (.int .i64 0) := (blk_cell BKg3.out 1).trans rfl
  have hfg3_1 := blk_frozen BKg3.out 1
  go_wp2_with fail
  ((with_reducible refine (aw_long _).mono ?_); rintro e_ W9 ⟨rfl, hb_⟩)
  have n_ := Aside0.mk (blk_below BKg1.out hb_); clear BKg1; have BKg1 := n_; clear n_
  clear hcg1_0 hfg1_0
  clear hcg1_1 hfg1_1
  have n_ := Aside0.mk (blk_below BKg3.out hb_); clear BKg3; have BKg3 := n_; clear n_
  clear hcg3_0 hfg3_0
  clear hcg3_1 hfg3_1
  have n_ := Aside0.mk (below_step HB.out hb_); clear HB; have HB := n_; clear n_
  clear hb_
  have hcg1_0 : W9.cell? ⟨g1, 0, none⟩ = some (.int .i64 5) := (blk_cell BKg1.out 0).trans rfl
  have hfg1_0 := blk_frozen BKg1.out 0
  have hcg1_1 : W9.cell? ⟨g1, 1, none⟩ = some (.int .i64 (-6)) := (blk_cell BKg1.out 1).trans rfl
  have hfg1_1 := blk_frozen BKg1.out 1
  have hcg3_0 : W9.cell? ⟨g3, 0, none⟩ = some (.int .i64 0) := (blk_cell BKg3.out 0).trans rfl
  have hfg3_0 := blk_frozen BKg3.out 0
  have hcg3_1 : W9.cell? ⟨g3, 1, none⟩ = some (.int .i64 0) := (blk_cell BKg3.out 1).trans rfl
  have hfg3_1 := blk_frozen BKg3.out 1
  go_wp2_with fail
  ((with_reducible refine (aw_near _).mono ?_); rintro e_ W10 ⟨rfl, hb_⟩)
  have n_ := Aside0.mk (blk_below BKg1.out hb_); clear BKg1; have BKg1 := n_; clear n_
  clear hcg1_0 hfg1_0
  clear hcg1_1 hfg1_1
  have n_ := Aside0.mk (blk_below BKg3.out hb_); clear BKg3; have BKg3 := n_; clear n_
  clear hcg3_0 hfg3_0
  clear hcg3_1 hfg3_1
  have n_ := Aside0.mk (below_step HB.out hb_); clear HB; have HB := n_; clear n_
  clear hb_
  have hcg1_0 : W10.cell? ⟨g1, 0, none⟩ = some (.int .i64 5) := (blk_cell BKg1.out 0).trans rfl
  have hfg1_0 := blk_frozen BKg1.out 0
  have hcg1_1 : W10.cell? ⟨g1, 1, none⟩ = some (.int .i64 (-6)) := (blk_cell BKg1.out 1).trans rfl
  have hfg1_1 := blk_frozen BKg1.out 1
  have hcg3_0 : W10.cell? ⟨g3, 0, none⟩ = some (.int .i64 0) := (blk_cell BKg3.out 0).trans rfl
  have hfg3_0 := blk_frozen BKg3.out 0
  have hcg3_1 : W10.cell? ⟨g3, 1, none⟩ = some (.int .i64 0) := (blk_cell BKg3.out 1).trans rfl
  have hfg3_1 := blk_frozen BKg3.out 1
  go_wp2_with fail
  ((with_reducible refine (aw_mean _).mono ?_); rintro e_ W11 ⟨rfl, hb_⟩)
  have n_ := Aside0.mk (blk_below BKg1.out hb_); clear BKg1; have BKg1 := n_; clear n_
  clear hcg1_0 hfg1_0
  clear hcg1_1 hfg1_1
  have n_ := Aside0.mk (blk_below BKg3.out hb_); clear BKg3; have BKg3 := n_; clear n_
  clear hcg3_0 hfg3_0
  clear hcg3_1 hfg3_1
  have n_ := Aside0.mk (below_step HB.out hb_); clear HB; have HB := n_; clear n_
  clear hb_
  have hcg1_0 : W11.cell? ⟨g1, 0, none⟩ = some (.int .i64 5) := (blk_cell BKg1.out 0).trans rfl
  have hfg1_0 := blk_frozen BKg1.out 0
  have hcg1_1 : W11.cell? ⟨g1, 1, none⟩ = some (.int .i64 (-6)) := (blk_cell BKg1.out 1).trans rfl
  have hfg1_1 := blk_frozen BKg1.out 1
  have hcg3_0 : W11.cell? ⟨g3, 0, none⟩ = some (.int .i64 0) := (blk_cell BKg3.out 0).trans rfl
  have hfg3_0 := blk_frozen BKg3.out 0
  have hcg3_1 : W11.cell? ⟨g3, 1, none⟩ = some (.int .i64 0) := (blk_cell BKg3.out 1).trans rfl
  have hfg3_1 := blk_frozen BKg3.out 1
  go_wp2
  go_ret
  exact ⟨rfl, (by repeat (first | (with_reducible first | exact HB.out | apply below_alloc | apply pw_below_drewN | apply below_drew1) | exact HB.out))⟩
end Go.Proofs.Ytjknihjdhccanaa
