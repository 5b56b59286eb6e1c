/- The walk of VecDots. -/
import Derived.Test.YtjknihjdhccanaaVecM
namespace Go.Proofs.Ytjknihjdhccanaa
open Go.RowKit Go.Proofs.YtjknihjdhccanaaW.PrintWords Go.Proofs.YtjknihjdhccanaaW.PrintLast Go.Proofs.YtjknihjdhccanaaW.PrintMore
set_option linter.unusedVariables false
set_option linter.unusedSimpArgs false

theorem fmul_comm (a b : Int) : fmul b a = fmul a b := by
  unfold fmul mulQ
  rw [Int.mul_comm (b.natAbs : Int)]
  by_cases h1 : a < 0 <;> by_cases h2 : b < 0 <;> simp [h1, h2]
theorem sat_self {a : Int} (h : I64 a) : sat a = a := by obtain ⟨h1, h2⟩ := h; unfold sat; (repeat' split) <;> omega
theorem mulQ_whole (a : Int) (n : Int) (hn : 0 ≤ n) : mulQ a (n * 4294967296) = n * a := by
  unfold mulQ
  have h0 : decide (n * 4294967296 < 0) = false := decide_eq_false (by omega)
  rw [h0]
  have e : ((n * 4294967296).natAbs : Int) = n * 4294967296 := by omega
  rw [e]
  have e2 : (a.natAbs : Int) * (n * 4294967296) / 4294967296 = (a.natAbs : Int) * n := by rw [← Int.mul_assoc]; omega
  rw [e2]
  by_cases h : a < 0
  · have ha : (a.natAbs : Int) = -a := by omega
    simp only [h, decide_true]
    rw [ha]; simp; rw [Int.neg_mul, Int.neg_neg, Int.mul_comm]
  · have ha : (a.natAbs : Int) = a := by omega
    simp only [h, decide_false]
    rw [ha]; simp; rw [Int.mul_comm]
theorem fmul_one {a : Int} (h : I64 a) : fmul a 4294967296 = a := by
  have := mulQ_whole a 1 (by omega)
  unfold fmul
  rw [show (4294967296 : Int) = 1 * 4294967296 from by omega, this, Int.one_mul, sat_self h]
theorem fmul_zero (a : Int) : fmul a 0 = 0 := by
  have := mulQ_whole a 0 (by omega)
  unfold fmul
  rw [show (0 : Int) = 0 * 4294967296 from by omega, this, Int.zero_mul]; decide
theorem fmul_small {a n : Int} (h1 : -1125899906842624 ≤ a) (h2 : a ≤ 1125899906842624) (n0 : 0 ≤ n) (n7 : n ≤ 7) : fmul a (n * 4294967296) = wrap64 (n * a) := by
  unfold fmul
  rw [mulQ_whole a n n0]
  have : n = 0 ∨ n = 1 ∨ n = 2 ∨ n = 3 ∨ n = 4 ∨ n = 5 ∨ n = 6 ∨ n = 7 := by omega
  unfold sat wrap64
  rcases this with rfl | rfl | rfl | rfl | rfl | rfl | rfl | rfl <;> (repeat' split) <;> omega
theorem ret_pair {a b c d : Int} (h : a = c) (g : b = d) : Ending.returned (.agg #[.int .i64 a, .int .i64 b]) = .returned (.agg #[.int .i64 c, .int .i64 d]) := by rw [h, g]
theorem and7 (n : Int) : 0 ≤ Go.bits .and .i64 n 7 ∧ Go.bits .and .i64 n 7 ≤ 7 := by
  rw [and_i64]
  rw [show ((7 : Int) % 18446744073709551616).toNat = 7 from rfl]
  have h : (n % 18446744073709551616).toNat &&& 7 ≤ 7 := Nat.and_le_right
  generalize (n % 18446744073709551616).toNat &&& 7 = X at *
  rw [wrap_i64']
  omega

set_option maxHeartbeats 4000000 in
set_option maxRecDepth 100000 in
theorem vecdots_0 (a b c d k : Int) (w : World) (ha : I64 a) (hb : I64 b) (hc : I64 c) (hd : I64 d) (hk : I64 k) (q0 : 1125899906842624 < a) :
    Calls Try.prog 5 #[.agg #[.int .i64 a, .int .i64 b], .agg #[.int .i64 c, .int .i64 d], .int .i64 k] w
      fun e w' => e = .returned (.bool true) ∧ Below w.heap.size w w' := by
  have HB := Aside0.mk (Below.refl w.heap.size w)
  obtain ⟨n0, n7⟩ := and7 k
  generalize hN : Go.bits .and .i64 k 7 = N at *
  have f1 := fmul_comm a c; have f2 := fmul_comm b d
  have f3 := fmul_one ha; have f4 := fmul_one hb; have f5 := fmul_zero a; have f6 := fmul_zero b
  have hz : I64 0 := ⟨by omega, by omega⟩
  have hone : I64 4294967296 := ⟨by omega, by omega⟩
  go_enter Try.func5, Try.ntmps5
  go_wp2_with (first | ((with_reducible refine gate_dst (N := 3) rfl ?_); refine box_event ?hg (N := 3) ?hd (cs := #[.int .i64 a, .int .i64 b]) (t := 23) ?hr ?_; (case hd => rfl); (case hg => rfl); (case hr => first | (go_simp; done) | (go_simp; rfl)); intro g1 hg_ W1 hbox_ hb_; have GEg1 := Aside0.mk ((by rw [hg_]; exact (below_size HB.out)) : w.heap.size ≤ g1); clear hg_; have n_ := Aside0.mk (below_step HB.out hb_); clear HB; have HB := n_; clear n_; have BKg1 := Aside0.mk hbox_; clear hbox_ hb_; have hcg1_0 : W1.cell? ⟨g1, 0, none⟩ = some (.int .i64 a) := (blk_cell BKg1.out 0).trans rfl; have hfg1_0 := blk_frozen BKg1.out 0; have hcg1_1 : W1.cell? ⟨g1, 1, none⟩ = some (.int .i64 b) := (blk_cell BKg1.out 1).trans rfl; have hfg1_1 := blk_frozen BKg1.out 1) | ((with_reducible refine gate_dst (N := 4) rfl ?_); refine box_event ?hg (N := 4) ?hd (cs := #[.int .i64 c, .int .i64 d]) (t := 23) ?hr ?_; (case hd => rfl); (case hg => rfl); (case hr => first | (go_simp; done) | (go_simp; rfl)); intro g2 hg_ W2 hbox_ hb_; have GEg2 := Aside0.mk ((by rw [hg_]; exact (below_size HB.out)) : w.heap.size ≤ g2); have NBg1_g2 : g1 ≠ g2 := (by rw [hg_]; exact Nat.ne_of_lt (blk_lt BKg1.out)); have NBg2_g1 : g2 ≠ g1 := Ne.symm NBg1_g2; clear hg_; have n_ := Aside0.mk (blk_below BKg1.out hb_); clear BKg1; have BKg1 := n_; clear n_; clear hcg1_0 hfg1_0; clear hcg1_1 hfg1_1; have n_ := Aside0.mk (below_step HB.out hb_); clear HB; have HB := n_; clear n_; have BKg2 := Aside0.mk hbox_; clear hbox_ hb_; have hcg1_0 : W2.cell? ⟨g1, 0, none⟩ = some (.int .i64 a) := (blk_cell BKg1.out 0).trans rfl; have hfg1_0 := blk_frozen BKg1.out 0; have hcg1_1 : W2.cell? ⟨g1, 1, none⟩ = some (.int .i64 b) := (blk_cell BKg1.out 1).trans rfl; have hfg1_1 := blk_frozen BKg1.out 1; have hcg2_0 : W2.cell? ⟨g2, 0, none⟩ = some (.int .i64 c) := (blk_cell BKg2.out 0).trans rfl; have hfg2_0 := blk_frozen BKg2.out 0; have hcg2_1 : W2.cell? ⟨g2, 1, none⟩ = some (.int .i64 d) := (blk_cell BKg2.out 1).trans rfl; have hfg2_1 := blk_frozen BKg2.out 1))
  ((with_reducible refine (awake_calls _).mono ?_); rintro e_ W3 ⟨rfl, hb_⟩)
  have n_ := Aside0.mk (blk_below BKg1.out hb_); clear BKg1; have BKg1 := n_; clear n_
  clear hcg1_0 hfg1_0
  clear hcg1_1 hfg1_1
  have n_ := Aside0.mk (blk_below BKg2.out hb_); clear BKg2; have BKg2 := n_; clear n_
  clear hcg2_0 hfg2_0
  clear hcg2_1 hfg2_1
  have n_ := Aside0.mk (below_step HB.out hb_); clear HB; have HB := n_; clear n_
  clear hb_
  have hcg1_0 : W3.cell? ⟨g1, 0, none⟩ = some (.int .i64 a) := (blk_cell BKg1.out 0).trans rfl
  have hfg1_0 := blk_frozen BKg1.out 0
  have hcg1_1 : W3.cell? ⟨g1, 1, none⟩ = some (.int .i64 b) := (blk_cell BKg1.out 1).trans rfl
  have hfg1_1 := blk_frozen BKg1.out 1
  have hcg2_0 : W3.cell? ⟨g2, 0, none⟩ = some (.int .i64 c) := (blk_cell BKg2.out 0).trans rfl
  have hfg2_0 := blk_frozen BKg2.out 0
  have hcg2_1 : W3.cell? ⟨g2, 1, none⟩ = some (.int .i64 d) := (blk_cell BKg2.out 1).trans rfl
  have hfg2_1 := blk_frozen BKg2.out 1
  go_wp2_with fail
  have hqg1_0 : ∀ u : Aft W3, u.w.cell? ⟨g1, 0, none⟩ = some (.int .i64 a) := fun u => (blk_cell (blk_below BKg1.out u.below) 0).trans rfl
  have hqg1_1 : ∀ u : Aft W3, u.w.cell? ⟨g1, 1, none⟩ = some (.int .i64 b) := fun u => (blk_cell (blk_below BKg1.out u.below) 1).trans rfl
  have hqg2_0 : ∀ u : Aft W3, u.w.cell? ⟨g2, 0, none⟩ = some (.int .i64 c) := fun u => (blk_cell (blk_below BKg2.out u.below) 0).trans rfl
  have hqg2_1 : ∀ u : Aft W3, u.w.cell? ⟨g2, 1, none⟩ = some (.int .i64 d) := fun u => (blk_cell (blk_below BKg2.out u.below) 1).trans rfl
  refine wp_region_aft (by kernel_rfl) (by kernel_rfl) ?_
  repeat (go_big_quiet_step (fail))
  go_big_quiet_step (refine aft_call (fun w => vdot_calls a b c d w ha hb hc hd))
  repeat (go_big_quiet_step (fail))
  go_big_quiet_step (refine aft_call (fun w => (vdot_calls c d a b w hc hd ha hb).mono fun _ _ h => ⟨h.1.trans (ret_int (by rw [f1, f2])), h.2⟩))
  repeat (go_big_quiet_step (fail))
  go_big_quiet_step (refine aft_call (fun w => (vscale_calls a b 4294967296 w ha hb hone).mono fun _ _ h => ⟨h.1.trans (ret_pair f3 f4), h.2⟩))
  repeat (go_big_quiet_step (fail))
  go_big_quiet_step (refine aft_call (fun w => (vscale_calls a b 0 w ha hb hz).mono fun _ _ h => ⟨h.1.trans (ret_pair f5 f6), h.2⟩))
  repeat (go_big_quiet_step (fail))
  refine wpQuiet_nil ?_
  intro W4 hb_
  clear hqg1_0
  clear hqg1_1
  clear hqg2_0
  clear hqg2_1
  have n_ := Aside0.mk (blk_below BKg1.out hb_); clear BKg1; have BKg1 := n_; clear n_
  clear hcg1_0 hfg1_0
  clear hcg1_1 hfg1_1
  have n_ := Aside0.mk (blk_below BKg2.out hb_); clear BKg2; have BKg2 := n_; clear n_
  clear hcg2_0 hfg2_0
  clear hcg2_1 hfg2_1
  have n_ := Aside0.mk (below_step HB.out hb_); clear HB; have HB := n_; clear n_
  clear hb_
  have hcg1_0 : W4.cell? ⟨g1, 0, none⟩ = some (.int .i64 a) := (blk_cell BKg1.out 0).trans rfl
  have hfg1_0 := blk_frozen BKg1.out 0
  have hcg1_1 : W4.cell? ⟨g1, 1, none⟩ = some (.int .i64 b) := (blk_cell BKg1.out 1).trans rfl
  have hfg1_1 := blk_frozen BKg1.out 1
  have hcg2_0 : W4.cell? ⟨g2, 0, none⟩ = some (.int .i64 c) := (blk_cell BKg2.out 0).trans rfl
  have hfg2_0 := blk_frozen BKg2.out 0
  have hcg2_1 : W4.cell? ⟨g2, 1, none⟩ = some (.int .i64 d) := (blk_cell BKg2.out 1).trans rfl
  have hfg2_1 := blk_frozen BKg2.out 1
  go_wp2
  go_ret
  exact ⟨rfl, (by repeat (first | (with_reducible first | exact HB.out | apply below_alloc | apply pw_below_drewN | apply below_drew1) | exact HB.out))⟩
set_option maxHeartbeats 4000000 in
set_option maxRecDepth 100000 in
theorem vecdots_1 (a b c d k : Int) (w : World) (ha : I64 a) (hb : I64 b) (hc : I64 c) (hd : I64 d) (hk : I64 k) (q0 : a ≤ 1125899906842624) (q1 : a < -1125899906842624) :
    Calls Try.prog 5 #[.agg #[.int .i64 a, .int .i64 b], .agg #[.int .i64 c, .int .i64 d], .int .i64 k] w
      fun e w' => e = .returned (.bool true) ∧ Below w.heap.size w w' := by
  have HB := Aside0.mk (Below.refl w.heap.size w)
  obtain ⟨n0, n7⟩ := and7 k
  generalize hN : Go.bits .and .i64 k 7 = N at *
  have f1 := fmul_comm a c; have f2 := fmul_comm b d
  have f3 := fmul_one ha; have f4 := fmul_one hb; have f5 := fmul_zero a; have f6 := fmul_zero b
  have hz : I64 0 := ⟨by omega, by omega⟩
  have hone : I64 4294967296 := ⟨by omega, by omega⟩
  go_enter Try.func5, Try.ntmps5
  go_wp2_with (first | ((with_reducible refine gate_dst (N := 3) rfl ?_); refine box_event ?hg (N := 3) ?hd (cs := #[.int .i64 a, .int .i64 b]) (t := 23) ?hr ?_; (case hd => rfl); (case hg => rfl); (case hr => first | (go_simp; done) | (go_simp; rfl)); intro g1 hg_ W1 hbox_ hb_; have GEg1 := Aside0.mk ((by rw [hg_]; exact (below_size HB.out)) : w.heap.size ≤ g1); clear hg_; have n_ := Aside0.mk (below_step HB.out hb_); clear HB; have HB := n_; clear n_; have BKg1 := Aside0.mk hbox_; clear hbox_ hb_; have hcg1_0 : W1.cell? ⟨g1, 0, none⟩ = some (.int .i64 a) := (blk_cell BKg1.out 0).trans rfl; have hfg1_0 := blk_frozen BKg1.out 0; have hcg1_1 : W1.cell? ⟨g1, 1, none⟩ = some (.int .i64 b) := (blk_cell BKg1.out 1).trans rfl; have hfg1_1 := blk_frozen BKg1.out 1) | ((with_reducible refine gate_dst (N := 4) rfl ?_); refine box_event ?hg (N := 4) ?hd (cs := #[.int .i64 c, .int .i64 d]) (t := 23) ?hr ?_; (case hd => rfl); (case hg => rfl); (case hr => first | (go_simp; done) | (go_simp; rfl)); intro g2 hg_ W2 hbox_ hb_; have GEg2 := Aside0.mk ((by rw [hg_]; exact (below_size HB.out)) : w.heap.size ≤ g2); have NBg1_g2 : g1 ≠ g2 := (by rw [hg_]; exact Nat.ne_of_lt (blk_lt BKg1.out)); have NBg2_g1 : g2 ≠ g1 := Ne.symm NBg1_g2; clear hg_; have n_ := Aside0.mk (blk_below BKg1.out hb_); clear BKg1; have BKg1 := n_; clear n_; clear hcg1_0 hfg1_0; clear hcg1_1 hfg1_1; have n_ := Aside0.mk (below_step HB.out hb_); clear HB; have HB := n_; clear n_; have BKg2 := Aside0.mk hbox_; clear hbox_ hb_; have hcg1_0 : W2.cell? ⟨g1, 0, none⟩ = some (.int .i64 a) := (blk_cell BKg1.out 0).trans rfl; have hfg1_0 := blk_frozen BKg1.out 0; have hcg1_1 : W2.cell? ⟨g1, 1, none⟩ = some (.int .i64 b) := (blk_cell BKg1.out 1).trans rfl; have hfg1_1 := blk_frozen BKg1.out 1; have hcg2_0 : W2.cell? ⟨g2, 0, none⟩ = some (.int .i64 c) := (blk_cell BKg2.out 0).trans rfl; have hfg2_0 := blk_frozen BKg2.out 0; have hcg2_1 : W2.cell? ⟨g2, 1, none⟩ = some (.int .i64 d) := (blk_cell BKg2.out 1).trans rfl; have hfg2_1 := blk_frozen BKg2.out 1))
  ((with_reducible refine (awake_calls _).mono ?_); rintro e_ W3 ⟨rfl, hb_⟩)
  have n_ := Aside0.mk (blk_below BKg1.out hb_); clear BKg1; have BKg1 := n_; clear n_
  clear hcg1_0 hfg1_0
  clear hcg1_1 hfg1_1
  have n_ := Aside0.mk (blk_below BKg2.out hb_); clear BKg2; have BKg2 := n_; clear n_
  clear hcg2_0 hfg2_0
  clear hcg2_1 hfg2_1
  have n_ := Aside0.mk (below_step HB.out hb_); clear HB; have HB := n_; clear n_
  clear hb_
  have hcg1_0 : W3.cell? ⟨g1, 0, none⟩ = some (.int .i64 a) := (blk_cell BKg1.out 0).trans rfl
  have hfg1_0 := blk_frozen BKg1.out 0
  have hcg1_1 : W3.cell? ⟨g1, 1, none⟩ = some (.int .i64 b) := (blk_cell BKg1.out 1).trans rfl
  have hfg1_1 := blk_frozen BKg1.out 1
  have hcg2_0 : W3.cell? ⟨g2, 0, none⟩ = some (.int .i64 c) := (blk_cell BKg2.out 0).trans rfl
  have hfg2_0 := blk_frozen BKg2.out 0
  have hcg2_1 : W3.cell? ⟨g2, 1, none⟩ = some (.int .i64 d) := (blk_cell BKg2.out 1).trans rfl
  have hfg2_1 := blk_frozen BKg2.out 1
  go_wp2_with fail
  have hqg1_0 : ∀ u : Aft W3, u.w.cell? ⟨g1, 0, none⟩ = some (.int .i64 a) := fun u => (blk_cell (blk_below BKg1.out u.below) 0).trans rfl
  have hqg1_1 : ∀ u : Aft W3, u.w.cell? ⟨g1, 1, none⟩ = some (.int .i64 b) := fun u => (blk_cell (blk_below BKg1.out u.below) 1).trans rfl
  have hqg2_0 : ∀ u : Aft W3, u.w.cell? ⟨g2, 0, none⟩ = some (.int .i64 c) := fun u => (blk_cell (blk_below BKg2.out u.below) 0).trans rfl
  have hqg2_1 : ∀ u : Aft W3, u.w.cell? ⟨g2, 1, none⟩ = some (.int .i64 d) := fun u => (blk_cell (blk_below BKg2.out u.below) 1).trans rfl
  refine wp_region_aft (by kernel_rfl) (by kernel_rfl) ?_
  repeat (go_big_quiet_step (fail))
  go_big_quiet_step (refine aft_call (fun w => vdot_calls a b c d w ha hb hc hd))
  repeat (go_big_quiet_step (fail))
  go_big_quiet_step (refine aft_call (fun w => (vdot_calls c d a b w hc hd ha hb).mono fun _ _ h => ⟨h.1.trans (ret_int (by rw [f1, f2])), h.2⟩))
  repeat (go_big_quiet_step (fail))
  go_big_quiet_step (refine aft_call (fun w => (vscale_calls a b 4294967296 w ha hb hone).mono fun _ _ h => ⟨h.1.trans (ret_pair f3 f4), h.2⟩))
  repeat (go_big_quiet_step (fail))
  go_big_quiet_step (refine aft_call (fun w => (vscale_calls a b 0 w ha hb hz).mono fun _ _ h => ⟨h.1.trans (ret_pair f5 f6), h.2⟩))
  repeat (go_big_quiet_step (fail))
  refine wpQuiet_nil ?_
  intro W4 hb_
  clear hqg1_0
  clear hqg1_1
  clear hqg2_0
  clear hqg2_1
  have n_ := Aside0.mk (blk_below BKg1.out hb_); clear BKg1; have BKg1 := n_; clear n_
  clear hcg1_0 hfg1_0
  clear hcg1_1 hfg1_1
  have n_ := Aside0.mk (blk_below BKg2.out hb_); clear BKg2; have BKg2 := n_; clear n_
  clear hcg2_0 hfg2_0
  clear hcg2_1 hfg2_1
  have n_ := Aside0.mk (below_step HB.out hb_); clear HB; have HB := n_; clear n_
  clear hb_
  have hcg1_0 : W4.cell? ⟨g1, 0, none⟩ = some (.int .i64 a) := (blk_cell BKg1.out 0).trans rfl
  have hfg1_0 := blk_frozen BKg1.out 0
  have hcg1_1 : W4.cell? ⟨g1, 1, none⟩ = some (.int .i64 b) := (blk_cell BKg1.out 1).trans rfl
  have hfg1_1 := blk_frozen BKg1.out 1
  have hcg2_0 : W4.cell? ⟨g2, 0, none⟩ = some (.int .i64 c) := (blk_cell BKg2.out 0).trans rfl
  have hfg2_0 := blk_frozen BKg2.out 0
  have hcg2_1 : W4.cell? ⟨g2, 1, none⟩ = some (.int .i64 d) := (blk_cell BKg2.out 1).trans rfl
  have hfg2_1 := blk_frozen BKg2.out 1
  go_wp2
  go_ret
  exact ⟨rfl, (by repeat (first | (with_reducible first | exact HB.out | apply below_alloc | apply pw_below_drewN | apply below_drew1) | exact HB.out))⟩
set_option maxHeartbeats 4000000 in
set_option maxRecDepth 100000 in
theorem vecdots_2 (a b c d k : Int) (w : World) (ha : I64 a) (hb : I64 b) (hc : I64 c) (hd : I64 d) (hk : I64 k) (q0 : a ≤ 1125899906842624) (q1 : -1125899906842624 ≤ a) (q2 : 1125899906842624 < b) :
    Calls Try.prog 5 #[.agg #[.int .i64 a, .int .i64 b], .agg #[.int .i64 c, .int .i64 d], .int .i64 k] w
      fun e w' => e = .returned (.bool true) ∧ Below w.heap.size w w' := by
  have HB := Aside0.mk (Below.refl w.heap.size w)
  obtain ⟨n0, n7⟩ := and7 k
  generalize hN : Go.bits .and .i64 k 7 = N at *
  have f1 := fmul_comm a c; have f2 := fmul_comm b d
  have f3 := fmul_one ha; have f4 := fmul_one hb; have f5 := fmul_zero a; have f6 := fmul_zero b
  have hz : I64 0 := ⟨by omega, by omega⟩
  have hone : I64 4294967296 := ⟨by omega, by omega⟩
  go_enter Try.func5, Try.ntmps5
  go_wp2_with (first | ((with_reducible refine gate_dst (N := 3) rfl ?_); refine box_event ?hg (N := 3) ?hd (cs := #[.int .i64 a, .int .i64 b]) (t := 23) ?hr ?_; (case hd => rfl); (case hg => rfl); (case hr => first | (go_simp; done) | (go_simp; rfl)); intro g1 hg_ W1 hbox_ hb_; have GEg1 := Aside0.mk ((by rw [hg_]; exact (below_size HB.out)) : w.heap.size ≤ g1); clear hg_; have n_ := Aside0.mk (below_step HB.out hb_); clear HB; have HB := n_; clear n_; have BKg1 := Aside0.mk hbox_; clear hbox_ hb_; have hcg1_0 : W1.cell? ⟨g1, 0, none⟩ = some (.int .i64 a) := (blk_cell BKg1.out 0).trans rfl; have hfg1_0 := blk_frozen BKg1.out 0; have hcg1_1 : W1.cell? ⟨g1, 1, none⟩ = some (.int .i64 b) := (blk_cell BKg1.out 1).trans rfl; have hfg1_1 := blk_frozen BKg1.out 1) | ((with_reducible refine gate_dst (N := 4) rfl ?_); refine box_event ?hg (N := 4) ?hd (cs := #[.int .i64 c, .int .i64 d]) (t := 23) ?hr ?_; (case hd => rfl); (case hg => rfl); (case hr => first | (go_simp; done) | (go_simp; rfl)); intro g2 hg_ W2 hbox_ hb_; have GEg2 := Aside0.mk ((by rw [hg_]; exact (below_size HB.out)) : w.heap.size ≤ g2); have NBg1_g2 : g1 ≠ g2 := (by rw [hg_]; exact Nat.ne_of_lt (blk_lt BKg1.out)); have NBg2_g1 : g2 ≠ g1 := Ne.symm NBg1_g2; clear hg_; have n_ := Aside0.mk (blk_below BKg1.out hb_); clear BKg1; have BKg1 := n_; clear n_; clear hcg1_0 hfg1_0; clear hcg1_1 hfg1_1; have n_ := Aside0.mk (below_step HB.out hb_); clear HB; have HB := n_; clear n_; have BKg2 := Aside0.mk hbox_; clear hbox_ hb_; have hcg1_0 : W2.cell? ⟨g1, 0, none⟩ = some (.int .i64 a) := (blk_cell BKg1.out 0).trans rfl; have hfg1_0 := blk_frozen BKg1.out 0; have hcg1_1 : W2.cell? ⟨g1, 1, none⟩ = some (.int .i64 b) := (blk_cell BKg1.out 1).trans rfl; have hfg1_1 := blk_frozen BKg1.out 1; have hcg2_0 : W2.cell? ⟨g2, 0, none⟩ = some (.int .i64 c) := (blk_cell BKg2.out 0).trans rfl; have hfg2_0 := blk_frozen BKg2.out 0; have hcg2_1 : W2.cell? ⟨g2, 1, none⟩ = some (.int .i64 d) := (blk_cell BKg2.out 1).trans rfl; have hfg2_1 := blk_frozen BKg2.out 1))
  ((with_reducible refine (awake_calls _).mono ?_); rintro e_ W3 ⟨rfl, hb_⟩)
  have n_ := Aside0.mk (blk_below BKg1.out hb_); clear BKg1; have BKg1 := n_; clear n_
  clear hcg1_0 hfg1_0
  clear hcg1_1 hfg1_1
  have n_ := Aside0.mk (blk_below BKg2.out hb_); clear BKg2; have BKg2 := n_; clear n_
  clear hcg2_0 hfg2_0
  clear hcg2_1 hfg2_1
  have n_ := Aside0.mk (below_step HB.out hb_); clear HB; have HB := n_; clear n_
  clear hb_
  have hcg1_0 : W3.cell? ⟨g1, 0, none⟩ = some (.int .i64 a) := (blk_cell BKg1.out 0).trans rfl
  have hfg1_0 := blk_frozen BKg1.out 0
  have hcg1_1 : W3.cell? ⟨g1, 1, none⟩ = some (.int .i64 b) := (blk_cell BKg1.out 1).trans rfl
  have hfg1_1 := blk_frozen BKg1.out 1
  have hcg2_0 : W3.cell? ⟨g2, 0, none⟩ = some (.int .i64 c) := (blk_cell BKg2.out 0).trans rfl
  have hfg2_0 := blk_frozen BKg2.out 0
  have hcg2_1 : W3.cell? ⟨g2, 1, none⟩ = some (.int .i64 d) := (blk_cell BKg2.out 1).trans rfl
  have hfg2_1 := blk_frozen BKg2.out 1
  go_wp2_with fail
  have hqg1_0 : ∀ u : Aft W3, u.w.cell? ⟨g1, 0, none⟩ = some (.int .i64 a) := fun u => (blk_cell (blk_below BKg1.out u.below) 0).trans rfl
  have hqg1_1 : ∀ u : Aft W3, u.w.cell? ⟨g1, 1, none⟩ = some (.int .i64 b) := fun u => (blk_cell (blk_below BKg1.out u.below) 1).trans rfl
  have hqg2_0 : ∀ u : Aft W3, u.w.cell? ⟨g2, 0, none⟩ = some (.int .i64 c) := fun u => (blk_cell (blk_below BKg2.out u.below) 0).trans rfl
  have hqg2_1 : ∀ u : Aft W3, u.w.cell? ⟨g2, 1, none⟩ = some (.int .i64 d) := fun u => (blk_cell (blk_below BKg2.out u.below) 1).trans rfl
  refine wp_region_aft (by kernel_rfl) (by kernel_rfl) ?_
  repeat (go_big_quiet_step (fail))
  go_big_quiet_step (refine aft_call (fun w => vdot_calls a b c d w ha hb hc hd))
  repeat (go_big_quiet_step (fail))
  go_big_quiet_step (refine aft_call (fun w => (vdot_calls c d a b w hc hd ha hb).mono fun _ _ h => ⟨h.1.trans (ret_int (by rw [f1, f2])), h.2⟩))
  repeat (go_big_quiet_step (fail))
  go_big_quiet_step (refine aft_call (fun w => (vscale_calls a b 4294967296 w ha hb hone).mono fun _ _ h => ⟨h.1.trans (ret_pair f3 f4), h.2⟩))
  repeat (go_big_quiet_step (fail))
  go_big_quiet_step (refine aft_call (fun w => (vscale_calls a b 0 w ha hb hz).mono fun _ _ h => ⟨h.1.trans (ret_pair f5 f6), h.2⟩))
  repeat (go_big_quiet_step (fail))
  refine wpQuiet_nil ?_
  intro W4 hb_
  clear hqg1_0
  clear hqg1_1
  clear hqg2_0
  clear hqg2_1
  have n_ := Aside0.mk (blk_below BKg1.out hb_); clear BKg1; have BKg1 := n_; clear n_
  clear hcg1_0 hfg1_0
  clear hcg1_1 hfg1_1
  have n_ := Aside0.mk (blk_below BKg2.out hb_); clear BKg2; have BKg2 := n_; clear n_
  clear hcg2_0 hfg2_0
  clear hcg2_1 hfg2_1
  have n_ := Aside0.mk (below_step HB.out hb_); clear HB; have HB := n_; clear n_
  clear hb_
  have hcg1_0 : W4.cell? ⟨g1, 0, none⟩ = some (.int .i64 a) := (blk_cell BKg1.out 0).trans rfl
  have hfg1_0 := blk_frozen BKg1.out 0
  have hcg1_1 : W4.cell? ⟨g1, 1, none⟩ = some (.int .i64 b) := (blk_cell BKg1.out 1).trans rfl
  have hfg1_1 := blk_frozen BKg1.out 1
  have hcg2_0 : W4.cell? ⟨g2, 0, none⟩ = some (.int .i64 c) := (blk_cell BKg2.out 0).trans rfl
  have hfg2_0 := blk_frozen BKg2.out 0
  have hcg2_1 : W4.cell? ⟨g2, 1, none⟩ = some (.int .i64 d) := (blk_cell BKg2.out 1).trans rfl
  have hfg2_1 := blk_frozen BKg2.out 1
  go_wp2
  go_ret
  exact ⟨rfl, (by repeat (first | (with_reducible first | exact HB.out | apply below_alloc | apply pw_below_drewN | apply below_drew1) | exact HB.out))⟩
set_option maxHeartbeats 4000000 in
set_option maxRecDepth 100000 in
theorem vecdots_3 (a b c d k : Int) (w : World) (ha : I64 a) (hb : I64 b) (hc : I64 c) (hd : I64 d) (hk : I64 k) (q0 : a ≤ 1125899906842624) (q1 : -1125899906842624 ≤ a) (q2 : b ≤ 1125899906842624) (q3 : b < -1125899906842624) :
    Calls Try.prog 5 #[.agg #[.int .i64 a, .int .i64 b], .agg #[.int .i64 c, .int .i64 d], .int .i64 k] w
      fun e w' => e = .returned (.bool true) ∧ Below w.heap.size w w' := by
  have HB := Aside0.mk (Below.refl w.heap.size w)
  obtain ⟨n0, n7⟩ := and7 k
  generalize hN : Go.bits .and .i64 k 7 = N at *
  have f1 := fmul_comm a c; have f2 := fmul_comm b d
  have f3 := fmul_one ha; have f4 := fmul_one hb; have f5 := fmul_zero a; have f6 := fmul_zero b
  have hz : I64 0 := ⟨by omega, by omega⟩
  have hone : I64 4294967296 := ⟨by omega, by omega⟩
  go_enter Try.func5, Try.ntmps5
  go_wp2_with (first | ((with_reducible refine gate_dst (N := 3) rfl ?_); refine box_event ?hg (N := 3) ?hd (cs := #[.int .i64 a, .int .i64 b]) (t := 23) ?hr ?_; (case hd => rfl); (case hg => rfl); (case hr => first | (go_simp; done) | (go_simp; rfl)); intro g1 hg_ W1 hbox_ hb_; have GEg1 := Aside0.mk ((by rw [hg_]; exact (below_size HB.out)) : w.heap.size ≤ g1); clear hg_; have n_ := Aside0.mk (below_step HB.out hb_); clear HB; have HB := n_; clear n_; have BKg1 := Aside0.mk hbox_; clear hbox_ hb_; have hcg1_0 : W1.cell? ⟨g1, 0, none⟩ = some (.int .i64 a) := (blk_cell BKg1.out 0).trans rfl; have hfg1_0 := blk_frozen BKg1.out 0; have hcg1_1 : W1.cell? ⟨g1, 1, none⟩ = some (.int .i64 b) := (blk_cell BKg1.out 1).trans rfl; have hfg1_1 := blk_frozen BKg1.out 1) | ((with_reducible refine gate_dst (N := 4) rfl ?_); refine box_event ?hg (N := 4) ?hd (cs := #[.int .i64 c, .int .i64 d]) (t := 23) ?hr ?_; (case hd => rfl); (case hg => rfl); (case hr => first | (go_simp; done) | (go_simp; rfl)); intro g2 hg_ W2 hbox_ hb_; have GEg2 := Aside0.mk ((by rw [hg_]; exact (below_size HB.out)) : w.heap.size ≤ g2); have NBg1_g2 : g1 ≠ g2 := (by rw [hg_]; exact Nat.ne_of_lt (blk_lt BKg1.out)); have NBg2_g1 : g2 ≠ g1 := Ne.symm NBg1_g2; clear hg_; have n_ := Aside0.mk (blk_below BKg1.out hb_); clear BKg1; have BKg1 := n_; clear n_; clear hcg1_0 hfg1_0; clear hcg1_1 hfg1_1; have n_ := Aside0.mk (below_step HB.out hb_); clear HB; have HB := n_; clear n_; have BKg2 := Aside0.mk hbox_; clear hbox_ hb_; have hcg1_0 : W2.cell? ⟨g1, 0, none⟩ = some (.int .i64 a) := (blk_cell BKg1.out 0).trans rfl; have hfg1_0 := blk_frozen BKg1.out 0; have hcg1_1 : W2.cell? ⟨g1, 1, none⟩ = some (.int .i64 b) := (blk_cell BKg1.out 1).trans rfl; have hfg1_1 := blk_frozen BKg1.out 1; have hcg2_0 : W2.cell? ⟨g2, 0, none⟩ = some (.int .i64 c) := (blk_cell BKg2.out 0).trans rfl; have hfg2_0 := blk_frozen BKg2.out 0; have hcg2_1 : W2.cell? ⟨g2, 1, none⟩ = some (.int .i64 d) := (blk_cell BKg2.out 1).trans rfl; have hfg2_1 := blk_frozen BKg2.out 1))
  ((with_reducible refine (awake_calls _).mono ?_); rintro e_ W3 ⟨rfl, hb_⟩)
  have n_ := Aside0.mk (blk_below BKg1.out hb_); clear BKg1; have BKg1 := n_; clear n_
  clear hcg1_0 hfg1_0
  clear hcg1_1 hfg1_1
  have n_ := Aside0.mk (blk_below BKg2.out hb_); clear BKg2; have BKg2 := n_; clear n_
  clear hcg2_0 hfg2_0
  clear hcg2_1 hfg2_1
  have n_ := Aside0.mk (below_step HB.out hb_); clear HB; have HB := n_; clear n_
  clear hb_
  have hcg1_0 : W3.cell? ⟨g1, 0, none⟩ = some (.int .i64 a) := (blk_cell BKg1.out 0).trans rfl
  have hfg1_0 := blk_frozen BKg1.out 0
  have hcg1_1 : W3.cell? ⟨g1, 1, none⟩ = some (.int .i64 b) := (blk_cell BKg1.out 1).trans rfl
  have hfg1_1 := blk_frozen BKg1.out 1
  have hcg2_0 : W3.cell? ⟨g2, 0, none⟩ = some (.int .i64 c) := (blk_cell BKg2.out 0).trans rfl
  have hfg2_0 := blk_frozen BKg2.out 0
  have hcg2_1 : W3.cell? ⟨g2, 1, none⟩ = some (.int .i64 d) := (blk_cell BKg2.out 1).trans rfl
  have hfg2_1 := blk_frozen BKg2.out 1
  go_wp2_with fail
  have hqg1_0 : ∀ u : Aft W3, u.w.cell? ⟨g1, 0, none⟩ = some (.int .i64 a) := fun u => (blk_cell (blk_below BKg1.out u.below) 0).trans rfl
  have hqg1_1 : ∀ u : Aft W3, u.w.cell? ⟨g1, 1, none⟩ = some (.int .i64 b) := fun u => (blk_cell (blk_below BKg1.out u.below) 1).trans rfl
  have hqg2_0 : ∀ u : Aft W3, u.w.cell? ⟨g2, 0, none⟩ = some (.int .i64 c) := fun u => (blk_cell (blk_below BKg2.out u.below) 0).trans rfl
  have hqg2_1 : ∀ u : Aft W3, u.w.cell? ⟨g2, 1, none⟩ = some (.int .i64 d) := fun u => (blk_cell (blk_below BKg2.out u.below) 1).trans rfl
  refine wp_region_aft (by kernel_rfl) (by kernel_rfl) ?_
  repeat (go_big_quiet_step (fail))
  go_big_quiet_step (refine aft_call (fun w => vdot_calls a b c d w ha hb hc hd))
  repeat (go_big_quiet_step (fail))
  go_big_quiet_step (refine aft_call (fun w => (vdot_calls c d a b w hc hd ha hb).mono fun _ _ h => ⟨h.1.trans (ret_int (by rw [f1, f2])), h.2⟩))
  repeat (go_big_quiet_step (fail))
  go_big_quiet_step (refine aft_call (fun w => (vscale_calls a b 4294967296 w ha hb hone).mono fun _ _ h => ⟨h.1.trans (ret_pair f3 f4), h.2⟩))
  repeat (go_big_quiet_step (fail))
  go_big_quiet_step (refine aft_call (fun w => (vscale_calls a b 0 w ha hb hz).mono fun _ _ h => ⟨h.1.trans (ret_pair f5 f6), h.2⟩))
  repeat (go_big_quiet_step (fail))
  refine wpQuiet_nil ?_
  intro W4 hb_
  clear hqg1_0
  clear hqg1_1
  clear hqg2_0
  clear hqg2_1
  have n_ := Aside0.mk (blk_below BKg1.out hb_); clear BKg1; have BKg1 := n_; clear n_
  clear hcg1_0 hfg1_0
  clear hcg1_1 hfg1_1
  have n_ := Aside0.mk (blk_below BKg2.out hb_); clear BKg2; have BKg2 := n_; clear n_
  clear hcg2_0 hfg2_0
  clear hcg2_1 hfg2_1
  have n_ := Aside0.mk (below_step HB.out hb_); clear HB; have HB := n_; clear n_
  clear hb_
  have hcg1_0 : W4.cell? ⟨g1, 0, none⟩ = some (.int .i64 a) := (blk_cell BKg1.out 0).trans rfl
  have hfg1_0 := blk_frozen BKg1.out 0
  have hcg1_1 : W4.cell? ⟨g1, 1, none⟩ = some (.int .i64 b) := (blk_cell BKg1.out 1).trans rfl
  have hfg1_1 := blk_frozen BKg1.out 1
  have hcg2_0 : W4.cell? ⟨g2, 0, none⟩ = some (.int .i64 c) := (blk_cell BKg2.out 0).trans rfl
  have hfg2_0 := blk_frozen BKg2.out 0
  have hcg2_1 : W4.cell? ⟨g2, 1, none⟩ = some (.int .i64 d) := (blk_cell BKg2.out 1).trans rfl
  have hfg2_1 := blk_frozen BKg2.out 1
  go_wp2
  go_ret
  exact ⟨rfl, (by repeat (first | (with_reducible first | exact HB.out | apply below_alloc | apply pw_below_drewN | apply below_drew1) | exact HB.out))⟩
set_option maxHeartbeats 4000000 in
set_option maxRecDepth 100000 in
theorem vecdots_4 (a b c d k : Int) (w : World) (ha : I64 a) (hb : I64 b) (hc : I64 c) (hd : I64 d) (hk : I64 k) (q0 : a ≤ 1125899906842624) (q1 : -1125899906842624 ≤ a) (q2 : b ≤ 1125899906842624) (q3 : -1125899906842624 ≤ b) :
    Calls Try.prog 5 #[.agg #[.int .i64 a, .int .i64 b], .agg #[.int .i64 c, .int .i64 d], .int .i64 k] w
      fun e w' => e = .returned (.bool true) ∧ Below w.heap.size w w' := by
  have HB := Aside0.mk (Below.refl w.heap.size w)
  obtain ⟨n0, n7⟩ := and7 k
  generalize hN : Go.bits .and .i64 k 7 = N at *
  have f1 := fmul_comm a c; have f2 := fmul_comm b d
  have f3 := fmul_one ha; have f4 := fmul_one hb; have f5 := fmul_zero a; have f6 := fmul_zero b
  have hz : I64 0 := ⟨by omega, by omega⟩
  have hone : I64 4294967296 := ⟨by omega, by omega⟩
  have hN1 : I64 (N * 4294967296) := ⟨by omega, by omega⟩
  have g1_ := fmul_small q1 q0 n0 n7; have g2_ := fmul_small q3 q2 n0 n7
  go_enter Try.func5, Try.ntmps5
  go_wp2_with (first | ((with_reducible refine gate_dst (N := 3) rfl ?_); refine box_event ?hg (N := 3) ?hd (cs := #[.int .i64 a, .int .i64 b]) (t := 23) ?hr ?_; (case hd => rfl); (case hg => rfl); (case hr => first | (go_simp; done) | (go_simp; rfl)); intro g1 hg_ W1 hbox_ hb_; have GEg1 := Aside0.mk ((by rw [hg_]; exact (below_size HB.out)) : w.heap.size ≤ g1); clear hg_; have n_ := Aside0.mk (below_step HB.out hb_); clear HB; have HB := n_; clear n_; have BKg1 := Aside0.mk hbox_; clear hbox_ hb_; have hcg1_0 : W1.cell? ⟨g1, 0, none⟩ = some (.int .i64 a) := (blk_cell BKg1.out 0).trans rfl; have hfg1_0 := blk_frozen BKg1.out 0; have hcg1_1 : W1.cell? ⟨g1, 1, none⟩ = some (.int .i64 b) := (blk_cell BKg1.out 1).trans rfl; have hfg1_1 := blk_frozen BKg1.out 1) | ((with_reducible refine gate_dst (N := 4) rfl ?_); refine box_event ?hg (N := 4) ?hd (cs := #[.int .i64 c, .int .i64 d]) (t := 23) ?hr ?_; (case hd => rfl); (case hg => rfl); (case hr => first | (go_simp; done) | (go_simp; rfl)); intro g2 hg_ W2 hbox_ hb_; have GEg2 := Aside0.mk ((by rw [hg_]; exact (below_size HB.out)) : w.heap.size ≤ g2); have NBg1_g2 : g1 ≠ g2 := (by rw [hg_]; exact Nat.ne_of_lt (blk_lt BKg1.out)); have NBg2_g1 : g2 ≠ g1 := Ne.symm NBg1_g2; clear hg_; have n_ := Aside0.mk (blk_below BKg1.out hb_); clear BKg1; have BKg1 := n_; clear n_; clear hcg1_0 hfg1_0; clear hcg1_1 hfg1_1; have n_ := Aside0.mk (below_step HB.out hb_); clear HB; have HB := n_; clear n_; have BKg2 := Aside0.mk hbox_; clear hbox_ hb_; have hcg1_0 : W2.cell? ⟨g1, 0, none⟩ = some (.int .i64 a) := (blk_cell BKg1.out 0).trans rfl; have hfg1_0 := blk_frozen BKg1.out 0; have hcg1_1 : W2.cell? ⟨g1, 1, none⟩ = some (.int .i64 b) := (blk_cell BKg1.out 1).trans rfl; have hfg1_1 := blk_frozen BKg1.out 1; have hcg2_0 : W2.cell? ⟨g2, 0, none⟩ = some (.int .i64 c) := (blk_cell BKg2.out 0).trans rfl; have hfg2_0 := blk_frozen BKg2.out 0; have hcg2_1 : W2.cell? ⟨g2, 1, none⟩ = some (.int .i64 d) := (blk_cell BKg2.out 1).trans rfl; have hfg2_1 := blk_frozen BKg2.out 1))
  ((with_reducible refine (awake_calls _).mono ?_); rintro e_ W3 ⟨rfl, hb_⟩)
  have n_ := Aside0.mk (blk_below BKg1.out hb_); clear BKg1; have BKg1 := n_; clear n_
  clear hcg1_0 hfg1_0
  clear hcg1_1 hfg1_1
  have n_ := Aside0.mk (blk_below BKg2.out hb_); clear BKg2; have BKg2 := n_; clear n_
  clear hcg2_0 hfg2_0
  clear hcg2_1 hfg2_1
  have n_ := Aside0.mk (below_step HB.out hb_); clear HB; have HB := n_; clear n_
  clear hb_
  have hcg1_0 : W3.cell? ⟨g1, 0, none⟩ = some (.int .i64 a) := (blk_cell BKg1.out 0).trans rfl
  have hfg1_0 := blk_frozen BKg1.out 0
  have hcg1_1 : W3.cell? ⟨g1, 1, none⟩ = some (.int .i64 b) := (blk_cell BKg1.out 1).trans rfl
  have hfg1_1 := blk_frozen BKg1.out 1
  have hcg2_0 : W3.cell? ⟨g2, 0, none⟩ = some (.int .i64 c) := (blk_cell BKg2.out 0).trans rfl
  have hfg2_0 := blk_frozen BKg2.out 0
  have hcg2_1 : W3.cell? ⟨g2, 1, none⟩ = some (.int .i64 d) := (blk_cell BKg2.out 1).trans rfl
  have hfg2_1 := blk_frozen BKg2.out 1
  go_wp2_with fail
  have hqg1_0 : ∀ u : Aft W3, u.w.cell? ⟨g1, 0, none⟩ = some (.int .i64 a) := fun u => (blk_cell (blk_below BKg1.out u.below) 0).trans rfl
  have hqg1_1 : ∀ u : Aft W3, u.w.cell? ⟨g1, 1, none⟩ = some (.int .i64 b) := fun u => (blk_cell (blk_below BKg1.out u.below) 1).trans rfl
  have hqg2_0 : ∀ u : Aft W3, u.w.cell? ⟨g2, 0, none⟩ = some (.int .i64 c) := fun u => (blk_cell (blk_below BKg2.out u.below) 0).trans rfl
  have hqg2_1 : ∀ u : Aft W3, u.w.cell? ⟨g2, 1, none⟩ = some (.int .i64 d) := fun u => (blk_cell (blk_below BKg2.out u.below) 1).trans rfl
  refine wp_region_aft (by kernel_rfl) (by kernel_rfl) ?_
  repeat (go_big_quiet_step (fail))
  go_big_quiet_step (refine aft_call (fun w => vdot_calls a b c d w ha hb hc hd))
  repeat (go_big_quiet_step (fail))
  go_big_quiet_step (refine aft_call (fun w => (vdot_calls c d a b w hc hd ha hb).mono fun _ _ h => ⟨h.1.trans (ret_int (by rw [f1, f2])), h.2⟩))
  repeat (go_big_quiet_step (fail))
  go_big_quiet_step (refine aft_call (fun w => (vscale_calls a b 4294967296 w ha hb hone).mono fun _ _ h => ⟨h.1.trans (ret_pair f3 f4), h.2⟩))
  repeat (go_big_quiet_step (fail))
  go_big_quiet_step (refine aft_call (fun w => (vscale_calls a b 0 w ha hb hz).mono fun _ _ h => ⟨h.1.trans (ret_pair f5 f6), h.2⟩))
  repeat (go_big_quiet_step (fail))
  refine wpQuiet_nil ?_
  intro W4 hb_
  clear hqg1_0
  clear hqg1_1
  clear hqg2_0
  clear hqg2_1
  have n_ := Aside0.mk (blk_below BKg1.out hb_); clear BKg1; have BKg1 := n_; clear n_
  clear hcg1_0 hfg1_0
  clear hcg1_1 hfg1_1
  have n_ := Aside0.mk (blk_below BKg2.out hb_); clear BKg2; have BKg2 := n_; clear n_
  clear hcg2_0 hfg2_0
  clear hcg2_1 hfg2_1
  have n_ := Aside0.mk (below_step HB.out hb_); clear HB; have HB := n_; clear n_
  clear hb_
  have hcg1_0 : W4.cell? ⟨g1, 0, none⟩ = some (.int .i64 a) := (blk_cell BKg1.out 0).trans rfl
  have hfg1_0 := blk_frozen BKg1.out 0
  have hcg1_1 : W4.cell? ⟨g1, 1, none⟩ = some (.int .i64 b) := (blk_cell BKg1.out 1).trans rfl
  have hfg1_1 := blk_frozen BKg1.out 1
  have hcg2_0 : W4.cell? ⟨g2, 0, none⟩ = some (.int .i64 c) := (blk_cell BKg2.out 0).trans rfl
  have hfg2_0 := blk_frozen BKg2.out 0
  have hcg2_1 : W4.cell? ⟨g2, 1, none⟩ = some (.int .i64 d) := (blk_cell BKg2.out 1).trans rfl
  have hfg2_1 := blk_frozen BKg2.out 1
  clear f1 f2 f3 f4 f5 f6
  go_wp2_with fail
  ((with_reducible refine (vscale_calls _ _ _ _ ha hb hN1).mono ?_); rintro e_ W5 ⟨rfl, hb_⟩)
  have n_ := Aside0.mk (blk_below BKg1.out hb_); clear BKg1; have BKg1 := n_; clear n_
  clear hcg1_0 hfg1_0
  clear hcg1_1 hfg1_1
  have n_ := Aside0.mk (blk_below BKg2.out hb_); clear BKg2; have BKg2 := n_; clear n_
  clear hcg2_0 hfg2_0
  clear hcg2_1 hfg2_1
  have n_ := Aside0.mk (below_step HB.out hb_); clear HB; have HB := n_; clear n_
  clear hb_
  have hcg1_0 : W5.cell? ⟨g1, 0, none⟩ = some (.int .i64 a) := (blk_cell BKg1.out 0).trans rfl
  have hfg1_0 := blk_frozen BKg1.out 0
  have hcg1_1 : W5.cell? ⟨g1, 1, none⟩ = some (.int .i64 b) := (blk_cell BKg1.out 1).trans rfl
  have hfg1_1 := blk_frozen BKg1.out 1
  have hcg2_0 : W5.cell? ⟨g2, 0, none⟩ = some (.int .i64 c) := (blk_cell BKg2.out 0).trans rfl
  have hfg2_0 := blk_frozen BKg2.out 0
  have hcg2_1 : W5.cell? ⟨g2, 1, none⟩ = some (.int .i64 d) := (blk_cell BKg2.out 1).trans rfl
  have hfg2_1 := blk_frozen BKg2.out 1
  rw [g1_, g2_]
  go_wp2_with (first | ((with_reducible refine gate_dst (N := 10) rfl ?_); refine box_event ?hg (N := 10) ?hd (cs := #[.int .i64 0, .int .i64 0]) (t := 23) ?hr ?_; (case hd => rfl); (case hg => rfl); (case hr => first | (go_simp; done) | (go_simp; rfl)); intro g3 hg_ W6 hbox_ hb_; have GEg3 := Aside0.mk ((by rw [hg_]; exact (below_size HB.out)) : w.heap.size ≤ g3); have NBg1_g3 : g1 ≠ g3 := (by rw [hg_]; exact Nat.ne_of_lt (blk_lt BKg1.out)); have NBg3_g1 : g3 ≠ g1 := Ne.symm NBg1_g3; have NBg2_g3 : g2 ≠ g3 := (by rw [hg_]; exact Nat.ne_of_lt (blk_lt BKg2.out)); have NBg3_g2 : g3 ≠ g2 := Ne.symm NBg2_g3; clear hg_; have n_ := Aside0.mk (blk_below BKg1.out hb_); clear BKg1; have BKg1 := n_; clear n_; clear hcg1_0 hfg1_0; clear hcg1_1 hfg1_1; have n_ := Aside0.mk (blk_below BKg2.out hb_); clear BKg2; have BKg2 := n_; clear n_; clear hcg2_0 hfg2_0; clear hcg2_1 hfg2_1; have n_ := Aside0.mk (below_step HB.out hb_); clear HB; have HB := n_; clear n_; have BKg3 := Aside0.mk hbox_; clear hbox_ hb_; have hcg1_0 : W6.cell? ⟨g1, 0, none⟩ = some (.int .i64 a) := (blk_cell BKg1.out 0).trans rfl; have hfg1_0 := blk_frozen BKg1.out 0; have hcg1_1 : W6.cell? ⟨g1, 1, none⟩ = some (.int .i64 b) := (blk_cell BKg1.out 1).trans rfl; have hfg1_1 := blk_frozen BKg1.out 1; have hcg2_0 : W6.cell? ⟨g2, 0, none⟩ = some (.int .i64 c) := (blk_cell BKg2.out 0).trans rfl; have hfg2_0 := blk_frozen BKg2.out 0; have hcg2_1 : W6.cell? ⟨g2, 1, none⟩ = some (.int .i64 d) := (blk_cell BKg2.out 1).trans rfl; have hfg2_1 := blk_frozen BKg2.out 1; have hcg3_0 : W6.cell? ⟨g3, 0, none⟩ = some (.int .i64 0) := (blk_cell BKg3.out 0).trans rfl; have hfg3_0 := blk_frozen BKg3.out 0; have hcg3_1 : W6.cell? ⟨g3, 1, none⟩ = some (.int .i64 0) := (blk_cell BKg3.out 1).trans rfl; have hfg3_1 := blk_frozen BKg3.out 1))
  have n_ : Aside0 (((W6.setCell ⟨g3, 0, none⟩ (.int .i64 (wrap64 (N * a)))).setCell ⟨g3, 1, none⟩ (.int .i64 (wrap64 (N * b)))).heap[g3]? = some (.cells #[.int .i64 (wrap64 (N * a)), .int .i64 (wrap64 (N * b))] 23 (0, 0))) := ⟨by refine blk_put (cs := #[.int .i64 (wrap64 (N * a)), .int .i64 0]) ?_ 1 _ rfl; refine blk_put (cs := #[.int .i64 0, .int .i64 0]) ?_ 0 _ rfl; exact BKg3.out⟩
  have m_ : Aside0 (((W6.setCell ⟨g3, 0, none⟩ (.int .i64 (wrap64 (N * a)))).setCell ⟨g3, 1, none⟩ (.int .i64 (wrap64 (N * b)))).heap[g1]? = some (.cells #[.int .i64 a, .int .i64 b] 23 (0, 0))) := ⟨(blk_far (blk_far BKg1.out NBg1_g3 _) NBg1_g3 _)⟩
  clear BKg1; have BKg1 := m_; clear m_
  have m_ : Aside0 (((W6.setCell ⟨g3, 0, none⟩ (.int .i64 (wrap64 (N * a)))).setCell ⟨g3, 1, none⟩ (.int .i64 (wrap64 (N * b)))).heap[g2]? = some (.cells #[.int .i64 c, .int .i64 d] 23 (0, 0))) := ⟨(blk_far (blk_far BKg2.out NBg2_g3 _) NBg2_g3 _)⟩
  clear BKg2; have BKg2 := m_; clear m_
  have b_ : Aside0 (Below w.heap.size w ((W6.setCell ⟨g3, 0, none⟩ (.int .i64 (wrap64 (N * a)))).setCell ⟨g3, 1, none⟩ (.int .i64 (wrap64 (N * b))))) := ⟨(below_set (below_set HB.out GEg3.out) GEg3.out)⟩
  clear BKg3 HB; have BKg3 := n_; have HB := b_; clear n_ b_
  clear hcg1_0 hfg1_0
  clear hcg1_1 hfg1_1
  clear hcg2_0 hfg2_0
  clear hcg2_1 hfg2_1
  clear hcg3_0 hfg3_0
  clear hcg3_1 hfg3_1
  generalize ((W6.setCell ⟨g3, 0, none⟩ (.int .i64 (wrap64 (N * a)))).setCell ⟨g3, 1, none⟩ (.int .i64 (wrap64 (N * b)))) = W7 at *
  have hcg1_0 : W7.cell? ⟨g1, 0, none⟩ = some (.int .i64 a) := (blk_cell BKg1.out 0).trans rfl
  have hfg1_0 := blk_frozen BKg1.out 0
  have hcg1_1 : W7.cell? ⟨g1, 1, none⟩ = some (.int .i64 b) := (blk_cell BKg1.out 1).trans rfl
  have hfg1_1 := blk_frozen BKg1.out 1
  have hcg2_0 : W7.cell? ⟨g2, 0, none⟩ = some (.int .i64 c) := (blk_cell BKg2.out 0).trans rfl
  have hfg2_0 := blk_frozen BKg2.out 0
  have hcg2_1 : W7.cell? ⟨g2, 1, none⟩ = some (.int .i64 d) := (blk_cell BKg2.out 1).trans rfl
  have hfg2_1 := blk_frozen BKg2.out 1
  have hcg3_0 : W7.cell? ⟨g3, 0, none⟩ = some (.int .i64 (wrap64 (N * a))) := (blk_cell BKg3.out 0).trans rfl
  have hfg3_0 := blk_frozen BKg3.out 0
  have hcg3_1 : W7.cell? ⟨g3, 1, none⟩ = some (.int .i64 (wrap64 (N * b))) := (blk_cell BKg3.out 1).trans rfl
  have hfg3_1 := blk_frozen BKg3.out 1
  go_wp2
  go_ret
  exact ⟨rfl, (by repeat (first | (with_reducible first | exact HB.out | apply below_alloc | apply pw_below_drewN | apply below_drew1) | exact HB.out))⟩

theorem vecdots_any (a b c d k : Int) (w : World) (ha : I64 a) (hb : I64 b) (hc : I64 c) (hd : I64 d) (hk : I64 k) :
    Calls Try.prog 5 #[.agg #[.int .i64 a, .int .i64 b], .agg #[.int .i64 c, .int .i64 d], .int .i64 k] w fun e w' => e = .returned (.bool true) ∧ Below w.heap.size w w' := by
  by_cases c0 : 1125899906842624 < a
  · exact vecdots_0 a b c d k w ha hb hc hd hk c0
  · by_cases c1 : a < -1125899906842624
    · exact vecdots_1 a b c d k w ha hb hc hd hk (by omega) c1
    · by_cases c2 : 1125899906842624 < b
      · exact vecdots_2 a b c d k w ha hb hc hd hk (by omega) (by omega) c2
      · by_cases c3 : b < -1125899906842624
        · exact vecdots_3 a b c d k w ha hb hc hd hk (by omega) (by omega) (by omega) c3
        · exact vecdots_4 a b c d k w ha hb hc hd hk (by omega) (by omega) (by omega) (by omega)
end Go.Proofs.Ytjknihjdhccanaa
