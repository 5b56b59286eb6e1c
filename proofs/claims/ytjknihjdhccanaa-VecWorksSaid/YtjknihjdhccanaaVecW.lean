/- The walk of VecWorks. -/
import Derived.Test.YtjknihjdhccanaaVecV
import Derived.Test.YtjknihjdhccanaaVecN
namespace Go.Proofs.Ytjknihjdhccanaa
open Go.RowKit Go.Proofs.YtjknihjdhccanaaW.PrintWords Go.Proofs.YtjknihjdhccanaaW.PrintLast Go.Proofs.YtjknihjdhccanaaW.PrintMore
set_option linter.unusedVariables false
set_option linter.unusedSimpArgs false

theorem rvadd_calls (a b c d : Int) (w : World) (ha : I64 a) (hb : I64 b) (hc : I64 c) (hd : I64 d) :
    Calls Try.prog 21 #[.agg #[.int .i64 a, .int .i64 b], .agg #[.int .i64 c, .int .i64 d]] w
      fun e w' => e = .returned (.agg #[.int .i64 (sat (a + c)), .int .i64 (sat (b + d))]) ∧ Below w.heap.size w w' :=
  (PVecWorks.tiltyardref05_Add.calls 1 a b c d _ _ w (by unfold PVecWorks.tiltyardref05_Add.f; rw [radd_eq a c ha hc]; simp only [Option.bind_some]; rw [radd_eq b d hb hd]; rfl)).mono fun _ _ h => ⟨h.1, h.2⟩
theorem rsub_eq (a b : Int) (ha : I64 a) (hb : I64 b) : PVecWorks.tiltyardref03_Sub.f 1 a b = some (sat (a - b)) := by
  obtain ⟨a1, a2⟩ := ha
  obtain ⟨b1, b2⟩ := hb
  unfold PVecWorks.tiltyardref03_Sub.f PVecWorks.tiltyardref03_Sub.j0 sat wrap64
  by_cases h1 : b > 0 <;> by_cases h2 : b < 0 <;> simp [h1, h2] <;> (repeat' split) <;> first | omega | (simp; done) | (simp; omega) | (simp at *; omega)
theorem rvsub_calls (a b c d : Int) (w : World) (ha : I64 a) (hb : I64 b) (hc : I64 c) (hd : I64 d) :
    Calls Try.prog 22 #[.agg #[.int .i64 a, .int .i64 b], .agg #[.int .i64 c, .int .i64 d]] w
      fun e w' => e = .returned (.agg #[.int .i64 (sat (a - c)), .int .i64 (sat (b - d))]) ∧ Below w.heap.size w w' :=
  (PVecWorks.tiltyardref05_Sub.calls 1 a b c d _ _ w (by unfold PVecWorks.tiltyardref05_Sub.f; rw [rsub_eq a c ha hc]; simp only [Option.bind_some]; rw [rsub_eq b d hb hd]; rfl)).mono fun _ _ h => ⟨h.1, h.2⟩
theorem rclamp1_eq (a m : Int) (h0 : 0 ≤ m) (h1 : m ≤ 9223372036854775807) : PVecWorks.tiltyardref05_clamp.f a m = some (clampI a m) := by
  unfold PVecWorks.tiltyardref05_clamp.f clampI mx mn max2 min2 wrap64
  congr 1
  (repeat' split) <;> omega
theorem rclamp_yes (a b m : Int) (w : World) (h0 : 0 ≤ m) (h1 : m ≤ 9223372036854775807) :
    Calls Try.prog 20 #[.agg #[.int .i64 a, .int .i64 b], .int .i64 m] w
      fun e w' => e = .returned (.tuple #[.agg #[.int .i64 (clampI a m), .int .i64 (clampI b m)], .int .i64 0]) ∧ Below w.heap.size w w' :=
  (PVecWorks.tiltyardref05_Clamp.calls a b m _ _ _ w (by unfold PVecWorks.tiltyardref05_Clamp.f; rw [if_neg (by omega), rclamp1_eq a m h0 h1]; simp only [Option.bind_some]; rw [rclamp1_eq b m h0 h1]; rfl)).mono fun _ _ h => ⟨h.1, h.2⟩
theorem rclamp_no (a b m : Int) (w : World) (h0 : m < 0) :
    Calls Try.prog 20 #[.agg #[.int .i64 a, .int .i64 b], .int .i64 m] w
      fun e w' => e = .returned (.tuple #[.agg #[.int .i64 0, .int .i64 0], .int .i64 1]) ∧ Below w.heap.size w w' :=
  (PVecWorks.tiltyardref05_Clamp.calls a b m _ _ _ w (by unfold PVecWorks.tiltyardref05_Clamp.f; rw [if_pos h0])).mono fun _ _ h => ⟨h.1, h.2⟩
theorem rnear1_eq (a b r : Int) (ha : I64 a) (hb : I64 b) (h0 : 0 ≤ r) (h1 : r ≤ 9223372036854775807) : PVecWorks.tiltyardref05_near.f a b r = some (decide (distI a b ≤ r)) := by
  obtain ⟨a1, a2⟩ := ha
  obtain ⟨b1, b2⟩ := hb
  unfold PVecWorks.tiltyardref05_near.f distI mn mx wrap64
  by_cases c : b < a
  · have e : (a - b).natAbs = a - b := by omega
    rw [e]
    simp only [c, if_true, show ¬ a < b from by omega, if_false]
    split
    · congr 1; symm; rw [decide_eq_true_eq]; omega
    · congr 1; rw [decide_eq_decide]; omega
  · have e : (a - b).natAbs = b - a := by omega
    rw [e]
    simp only [c, if_false]
    split
    · congr 1; symm; rw [decide_eq_true_eq]; omega
    · congr 1; rw [decide_eq_decide]; split <;> omega
theorem rnear_calls (a b c d r : Int) (w : World) (ha : I64 a) (hb : I64 b) (hc : I64 c) (hd : I64 d) (hr : I64 r) :
    Calls Try.prog 26 #[.agg #[.int .i64 a, .int .i64 b], .agg #[.int .i64 c, .int .i64 d], .int .i64 r] w
      fun e w' => e = .returned (.bool (nearB a b c d r)) ∧ Below w.heap.size w w' :=
  (PVecWorks.tiltyardref05_Near.calls a b c d r _ w (by
    unfold PVecWorks.tiltyardref05_Near.f nearB
    by_cases h : r < 0
    · rw [if_pos h, decide_eq_false (show ¬ 0 ≤ r by omega)]; rfl
    · rw [if_neg h, rnear1_eq a c r ha hc (by omega) hr.2, decide_eq_true (show 0 ≤ r by omega)]
      simp only [Option.bind_some]
      rw [rnear1_eq b d r hb hd (by omega) hr.2]
      simp only [Option.bind_some, Bool.true_and]
      by_cases g : distI a c ≤ r <;> simp [g])).mono fun _ _ h => ⟨h.1, h.2⟩
theorem and_one (n : Int) : Go.bits .and .i64 n 1 = n % 2 := by
  rw [and_i64, show ((1 : Int) % 18446744073709551616).toNat = 1 from rfl, Nat.and_one_is_mod, wrap_i64']
  omega
theorem nat_and_mod2 (A B : Nat) : (A &&& B) % 2 = (A % 2) * (B % 2) := by
  have := Nat.and_mod_two_pow (a := A) (b := B) (n := 1)
  simp at this
  rcases Nat.mod_two_eq_zero_or_one A with x | x <;> rcases Nat.mod_two_eq_zero_or_one B with y | y <;> simp [x, y] at this ⊢ <;> omega
theorem wrap_mod2 (n : Int) : ((n + 9223372036854775808) % 18446744073709551616 - 9223372036854775808) % 2 = n % 2 := by omega
theorem toNat_mod2 (a : Int) : (((a % 18446744073709551616).toNat % 2 : Nat) : Int) = a % 2 := by omega
theorem half_last (a b : Int) (a1 : -9223372036854775808 ≤ a) (a2 : a ≤ 9223372036854775807) (b1 : -9223372036854775808 ≤ b) (b2 : b ≤ 9223372036854775807) (x y p : Int) (hx : a % 2 = x) (hy : b % 2 = y) (hp : p = x * y) :
    wrap64 (wrap64 (a / 2 + b / 2) + p) = (a + b) / 2 := by
  have h1 : x = 0 ∨ x = 1 := by omega
  have h2 : y = 0 ∨ y = 1 := by omega
  have e : wrap64 (a / 2 + b / 2) = a / 2 + b / 2 := by unfold wrap64; omega
  rw [e]
  have e2 : a / 2 + b / 2 + p = (a + b) / 2 := by
    rcases h1 with rfl | rfl <;> rcases h2 with rfl | rfl <;> simp at hp <;> omega
  rw [e2]
  unfold wrap64
  omega
theorem half_eq (a b : Int) (ha : I64 a) (hb : I64 b) : PVecWorks.tiltyardref05_half.f a b = some (midI a b) := by
  rw [mid_eq ha hb]
  unfold PVecWorks.tiltyardref05_half.f
  rw [and_one, and_i64, wrap_i64', wrap_mod2]
  congr 1
  refine half_last a b ha.1 ha.2 hb.1 hb.2 _ _ _ rfl rfl ?_
  rw [← toNat_mod2 a, ← toNat_mod2 b]
  generalize (a % 18446744073709551616).toNat = A
  generalize (b % 18446744073709551616).toNat = B
  have := nat_and_mod2 A B
  rw [show ((A &&& B : Nat) : Int) % 2 = (((A &&& B) % 2 : Nat) : Int) from by omega, this]
  simp
theorem rmean_calls (a b c d : Int) (w : World) (ha : I64 a) (hb : I64 b) (hc : I64 c) (hd : I64 d) :
    Calls Try.prog 27 #[.agg #[.int .i64 a, .int .i64 b], .agg #[.int .i64 c, .int .i64 d]] w
      fun e w' => e = .returned (.agg #[.int .i64 (midI a c), .int .i64 (midI b d)]) ∧ Below w.heap.size w w' :=
  (PVecWorks.tiltyardref05_Mean.calls a b c d _ _ w (by unfold PVecWorks.tiltyardref05_Mean.f; rw [half_eq a c ha hc]; simp only [Option.bind_some]; rw [half_eq b d hb hd]; rfl)).mono fun _ _ h => ⟨h.1, h.2⟩
set_option maxHeartbeats 8000000 in
set_option maxRecDepth 100000 in
theorem vecworks_1 (a b c d k : Int) (w : World) (ha : I64 a) (hb : I64 b) (hc : I64 c) (hd : I64 d) (hk : I64 k) (hneg : k < 0) :
    Calls Try.prog 7 #[.agg #[.int .i64 a, .int .i64 b], .agg #[.int .i64 c, .int .i64 d], .int .i64 k] w
      fun e w' => e = .returned (.bool true) ∧ Below w.heap.size w w' := by
  have HB := Aside0.mk (Below.refl w.heap.size w)
  have k2 := hk.2
  go_enter Try.func7, Try.ntmps7
  go_wp2_with (first | ((with_reducible refine gate_dst (N := 3) rfl ?_); refine box_event ?hg (N := 3) ?hd (cs := #[.int .i64 a, .int .i64 b]) (t := 23) ?hr ?_; (case hd => rfl); (case hg => rfl); (case hr => first | (go_simp; done) | (go_simp; rfl)); intro g1 hg_ W1 hbox_ hb_; have GEg1 := Aside0.mk ((by rw [hg_]; exact (below_size HB.out)) : w.heap.size ≤ g1); clear hg_; have n_ := Aside0.mk (below_step HB.out hb_); clear HB; have HB := n_; clear n_; have BKg1 := Aside0.mk hbox_; clear hbox_ hb_; have hcg1_0 : W1.cell? ⟨g1, 0, none⟩ = some (.int .i64 a) := (blk_cell BKg1.out 0).trans rfl; have hfg1_0 := blk_frozen BKg1.out 0; have hcg1_1 : W1.cell? ⟨g1, 1, none⟩ = some (.int .i64 b) := (blk_cell BKg1.out 1).trans rfl; have hfg1_1 := blk_frozen BKg1.out 1) | ((with_reducible refine gate_dst (N := 4) rfl ?_); refine box_event ?hg (N := 4) ?hd (cs := #[.int .i64 c, .int .i64 d]) (t := 23) ?hr ?_; (case hd => rfl); (case hg => rfl); (case hr => first | (go_simp; done) | (go_simp; rfl)); intro g2 hg_ W2 hbox_ hb_; have GEg2 := Aside0.mk ((by rw [hg_]; exact (below_size HB.out)) : w.heap.size ≤ g2); have NBg1_g2 : g1 ≠ g2 := (by rw [hg_]; exact Nat.ne_of_lt (blk_lt BKg1.out)); have NBg2_g1 : g2 ≠ g1 := Ne.symm NBg1_g2; clear hg_; have n_ := Aside0.mk (blk_below BKg1.out hb_); clear BKg1; have BKg1 := n_; clear n_; clear hcg1_0 hfg1_0; clear hcg1_1 hfg1_1; have n_ := Aside0.mk (below_step HB.out hb_); clear HB; have HB := n_; clear n_; have BKg2 := Aside0.mk hbox_; clear hbox_ hb_; have hcg1_0 : W2.cell? ⟨g1, 0, none⟩ = some (.int .i64 a) := (blk_cell BKg1.out 0).trans rfl; have hfg1_0 := blk_frozen BKg1.out 0; have hcg1_1 : W2.cell? ⟨g1, 1, none⟩ = some (.int .i64 b) := (blk_cell BKg1.out 1).trans rfl; have hfg1_1 := blk_frozen BKg1.out 1; have hcg2_0 : W2.cell? ⟨g2, 0, none⟩ = some (.int .i64 c) := (blk_cell BKg2.out 0).trans rfl; have hfg2_0 := blk_frozen BKg2.out 0; have hcg2_1 : W2.cell? ⟨g2, 1, none⟩ = some (.int .i64 d) := (blk_cell BKg2.out 1).trans rfl; have hfg2_1 := blk_frozen BKg2.out 1))
  ((with_reducible refine (awake_calls _).mono ?_); rintro e_ W3 ⟨rfl, hb_⟩)
  have n_ := Aside0.mk (blk_below BKg1.out hb_); clear BKg1; have BKg1 := n_; clear n_
  clear hcg1_0 hfg1_0
  clear hcg1_1 hfg1_1
  have n_ := Aside0.mk (blk_below BKg2.out hb_); clear BKg2; have BKg2 := n_; clear n_
  clear hcg2_0 hfg2_0
  clear hcg2_1 hfg2_1
  have n_ := Aside0.mk (below_step HB.out hb_); clear HB; have HB := n_; clear n_
  clear hb_
  have hcg1_0 : W3.cell? ⟨g1, 0, none⟩ = some (.int .i64 a) := (blk_cell BKg1.out 0).trans rfl
  have hfg1_0 := blk_frozen BKg1.out 0
  have hcg1_1 : W3.cell? ⟨g1, 1, none⟩ = some (.int .i64 b) := (blk_cell BKg1.out 1).trans rfl
  have hfg1_1 := blk_frozen BKg1.out 1
  have hcg2_0 : W3.cell? ⟨g2, 0, none⟩ = some (.int .i64 c) := (blk_cell BKg2.out 0).trans rfl
  have hfg2_0 := blk_frozen BKg2.out 0
  have hcg2_1 : W3.cell? ⟨g2, 1, none⟩ = some (.int .i64 d) := (blk_cell BKg2.out 1).trans rfl
  have hfg2_1 := blk_frozen BKg2.out 1
  go_wp2_with fail
  ((with_reducible refine (vclamp_no _ _ _ _ hneg).mono ?_); rintro e_ W4 ⟨rfl, hb_⟩)
  have n_ := Aside0.mk (blk_below BKg1.out hb_); clear BKg1; have BKg1 := n_; clear n_
  clear hcg1_0 hfg1_0
  clear hcg1_1 hfg1_1
  have n_ := Aside0.mk (blk_below BKg2.out hb_); clear BKg2; have BKg2 := n_; clear n_
  clear hcg2_0 hfg2_0
  clear hcg2_1 hfg2_1
  have n_ := Aside0.mk (below_step HB.out hb_); clear HB; have HB := n_; clear n_
  clear hb_
  have hcg1_0 : W4.cell? ⟨g1, 0, none⟩ = some (.int .i64 a) := (blk_cell BKg1.out 0).trans rfl
  have hfg1_0 := blk_frozen BKg1.out 0
  have hcg1_1 : W4.cell? ⟨g1, 1, none⟩ = some (.int .i64 b) := (blk_cell BKg1.out 1).trans rfl
  have hfg1_1 := blk_frozen BKg1.out 1
  have hcg2_0 : W4.cell? ⟨g2, 0, none⟩ = some (.int .i64 c) := (blk_cell BKg2.out 0).trans rfl
  have hfg2_0 := blk_frozen BKg2.out 0
  have hcg2_1 : W4.cell? ⟨g2, 1, none⟩ = some (.int .i64 d) := (blk_cell BKg2.out 1).trans rfl
  have hfg2_1 := blk_frozen BKg2.out 1
  go_wp2_with (first | ((with_reducible refine gate_dst (N := 8) rfl ?_); refine box_event ?hg (N := 8) ?hd (cs := #[.int .i64 0, .int .i64 0]) (t := 23) ?hr ?_; (case hd => rfl); (case hg => rfl); (case hr => first | (go_simp; done) | (go_simp; rfl)); intro g3 hg_ W5 hbox_ hb_; have GEg3 := Aside0.mk ((by rw [hg_]; exact (below_size HB.out)) : w.heap.size ≤ g3); have NBg1_g3 : g1 ≠ g3 := (by rw [hg_]; exact Nat.ne_of_lt (blk_lt BKg1.out)); have NBg3_g1 : g3 ≠ g1 := Ne.symm NBg1_g3; have NBg2_g3 : g2 ≠ g3 := (by rw [hg_]; exact Nat.ne_of_lt (blk_lt BKg2.out)); have NBg3_g2 : g3 ≠ g2 := Ne.symm NBg2_g3; clear hg_; have n_ := Aside0.mk (blk_below BKg1.out hb_); clear BKg1; have BKg1 := n_; clear n_; clear hcg1_0 hfg1_0; clear hcg1_1 hfg1_1; have n_ := Aside0.mk (blk_below BKg2.out hb_); clear BKg2; have BKg2 := n_; clear n_; clear hcg2_0 hfg2_0; clear hcg2_1 hfg2_1; have n_ := Aside0.mk (below_step HB.out hb_); clear HB; have HB := n_; clear n_; have BKg3 := Aside0.mk hbox_; clear hbox_ hb_; have hcg1_0 : W5.cell? ⟨g1, 0, none⟩ = some (.int .i64 a) := (blk_cell BKg1.out 0).trans rfl; have hfg1_0 := blk_frozen BKg1.out 0; have hcg1_1 : W5.cell? ⟨g1, 1, none⟩ = some (.int .i64 b) := (blk_cell BKg1.out 1).trans rfl; have hfg1_1 := blk_frozen BKg1.out 1; have hcg2_0 : W5.cell? ⟨g2, 0, none⟩ = some (.int .i64 c) := (blk_cell BKg2.out 0).trans rfl; have hfg2_0 := blk_frozen BKg2.out 0; have hcg2_1 : W5.cell? ⟨g2, 1, none⟩ = some (.int .i64 d) := (blk_cell BKg2.out 1).trans rfl; have hfg2_1 := blk_frozen BKg2.out 1; have hcg3_0 : W5.cell? ⟨g3, 0, none⟩ = some (.int .i64 0) := (blk_cell BKg3.out 0).trans rfl; have hfg3_0 := blk_frozen BKg3.out 0; have hcg3_1 : W5.cell? ⟨g3, 1, none⟩ = some (.int .i64 0) := (blk_cell BKg3.out 1).trans rfl; have hfg3_1 := blk_frozen BKg3.out 1))
  have n_ : Aside0 (((W5.setCell ⟨g3, 0, none⟩ (.int .i64 0)).setCell ⟨g3, 1, none⟩ (.int .i64 0)).heap[g3]? = some (.cells #[.int .i64 0, .int .i64 0] 23 (0, 0))) := ⟨by refine blk_put (cs := #[.int .i64 0, .int .i64 0]) ?_ 1 _ rfl; refine blk_put (cs := #[.int .i64 0, .int .i64 0]) ?_ 0 _ rfl; exact BKg3.out⟩
  have m_ : Aside0 (((W5.setCell ⟨g3, 0, none⟩ (.int .i64 0)).setCell ⟨g3, 1, none⟩ (.int .i64 0)).heap[g1]? = some (.cells #[.int .i64 a, .int .i64 b] 23 (0, 0))) := ⟨(blk_far (blk_far BKg1.out NBg1_g3 _) NBg1_g3 _)⟩
  clear BKg1; have BKg1 := m_; clear m_
  have m_ : Aside0 (((W5.setCell ⟨g3, 0, none⟩ (.int .i64 0)).setCell ⟨g3, 1, none⟩ (.int .i64 0)).heap[g2]? = some (.cells #[.int .i64 c, .int .i64 d] 23 (0, 0))) := ⟨(blk_far (blk_far BKg2.out NBg2_g3 _) NBg2_g3 _)⟩
  clear BKg2; have BKg2 := m_; clear m_
  have b_ : Aside0 (Below w.heap.size w ((W5.setCell ⟨g3, 0, none⟩ (.int .i64 0)).setCell ⟨g3, 1, none⟩ (.int .i64 0))) := ⟨(below_set (below_set HB.out GEg3.out) GEg3.out)⟩
  clear BKg3 HB; have BKg3 := n_; have HB := b_; clear n_ b_
  clear hcg1_0 hfg1_0
  clear hcg1_1 hfg1_1
  clear hcg2_0 hfg2_0
  clear hcg2_1 hfg2_1
  clear hcg3_0 hfg3_0
  clear hcg3_1 hfg3_1
  generalize ((W5.setCell ⟨g3, 0, none⟩ (.int .i64 0)).setCell ⟨g3, 1, none⟩ (.int .i64 0)) = W6 at *
  have hcg1_0 : W6.cell? ⟨g1, 0, none⟩ = some (.int .i64 a) := (blk_cell BKg1.out 0).trans rfl
  have hfg1_0 := blk_frozen BKg1.out 0
  have hcg1_1 : W6.cell? ⟨g1, 1, none⟩ = some (.int .i64 b) := (blk_cell BKg1.out 1).trans rfl
  have hfg1_1 := blk_frozen BKg1.out 1
  have hcg2_0 : W6.cell? ⟨g2, 0, none⟩ = some (.int .i64 c) := (blk_cell BKg2.out 0).trans rfl
  have hfg2_0 := blk_frozen BKg2.out 0
  have hcg2_1 : W6.cell? ⟨g2, 1, none⟩ = some (.int .i64 d) := (blk_cell BKg2.out 1).trans rfl
  have hfg2_1 := blk_frozen BKg2.out 1
  have hcg3_0 : W6.cell? ⟨g3, 0, none⟩ = some (.int .i64 0) := (blk_cell BKg3.out 0).trans rfl
  have hfg3_0 := blk_frozen BKg3.out 0
  have hcg3_1 : W6.cell? ⟨g3, 1, none⟩ = some (.int .i64 0) := (blk_cell BKg3.out 1).trans rfl
  have hfg3_1 := blk_frozen BKg3.out 1
  ((with_reducible refine (rclamp_no _ _ _ _ hneg).mono ?_); rintro e_ W7 ⟨rfl, hb_⟩)
  have n_ := Aside0.mk (blk_below BKg1.out hb_); clear BKg1; have BKg1 := n_; clear n_
  clear hcg1_0 hfg1_0
  clear hcg1_1 hfg1_1
  have n_ := Aside0.mk (blk_below BKg2.out hb_); clear BKg2; have BKg2 := n_; clear n_
  clear hcg2_0 hfg2_0
  clear hcg2_1 hfg2_1
  have n_ := Aside0.mk (blk_below BKg3.out hb_); clear BKg3; have BKg3 := n_; clear n_
  clear hcg3_0 hfg3_0
  clear hcg3_1 hfg3_1
  have n_ := Aside0.mk (below_step HB.out hb_); clear HB; have HB := n_; clear n_
  clear hb_
  have hcg1_0 : W7.cell? ⟨g1, 0, none⟩ = some (.int .i64 a) := (blk_cell BKg1.out 0).trans rfl
  have hfg1_0 := blk_frozen BKg1.out 0
  have hcg1_1 : W7.cell? ⟨g1, 1, none⟩ = some (.int .i64 b) := (blk_cell BKg1.out 1).trans rfl
  have hfg1_1 := blk_frozen BKg1.out 1
  have hcg2_0 : W7.cell? ⟨g2, 0, none⟩ = some (.int .i64 c) := (blk_cell BKg2.out 0).trans rfl
  have hfg2_0 := blk_frozen BKg2.out 0
  have hcg2_1 : W7.cell? ⟨g2, 1, none⟩ = some (.int .i64 d) := (blk_cell BKg2.out 1).trans rfl
  have hfg2_1 := blk_frozen BKg2.out 1
  have hcg3_0 : W7.cell? ⟨g3, 0, none⟩ = some (.int .i64 0) := (blk_cell BKg3.out 0).trans rfl
  have hfg3_0 := blk_frozen BKg3.out 0
  have hcg3_1 : W7.cell? ⟨g3, 1, none⟩ = some (.int .i64 0) := (blk_cell BKg3.out 1).trans rfl
  have hfg3_1 := blk_frozen BKg3.out 1
  go_wp2_with (first | ((with_reducible refine gate_dst (N := 10) rfl ?_); refine box_event ?hg (N := 10) ?hd (cs := #[.int .i64 0, .int .i64 0]) (t := 23) ?hr ?_; (case hd => rfl); (case hg => rfl); (case hr => first | (go_simp; done) | (go_simp; rfl)); intro g4 hg_ W8 hbox_ hb_; have GEg4 := Aside0.mk ((by rw [hg_]; exact (below_size HB.out)) : w.heap.size ≤ g4); have NBg1_g4 : g1 ≠ g4 := (by rw [hg_]; exact Nat.ne_of_lt (blk_lt BKg1.out)); have NBg4_g1 : g4 ≠ g1 := Ne.symm NBg1_g4; have NBg2_g4 : g2 ≠ g4 := (by rw [hg_]; exact Nat.ne_of_lt (blk_lt BKg2.out)); have NBg4_g2 : g4 ≠ g2 := Ne.symm NBg2_g4; have NBg3_g4 : g3 ≠ g4 := (by rw [hg_]; exact Nat.ne_of_lt (blk_lt BKg3.out)); have NBg4_g3 : g4 ≠ g3 := Ne.symm NBg3_g4; clear hg_; have n_ := Aside0.mk (blk_below BKg1.out hb_); clear BKg1; have BKg1 := n_; clear n_; clear hcg1_0 hfg1_0; clear hcg1_1 hfg1_1; have n_ := Aside0.mk (blk_below BKg2.out hb_); clear BKg2; have BKg2 := n_; clear n_; clear hcg2_0 hfg2_0; clear hcg2_1 hfg2_1; have n_ := Aside0.mk (blk_below BKg3.out hb_); clear BKg3; have BKg3 := n_; clear n_; clear hcg3_0 hfg3_0; clear hcg3_1 hfg3_1; have n_ := Aside0.mk (below_step HB.out hb_); clear HB; have HB := n_; clear n_; have BKg4 := Aside0.mk hbox_; clear hbox_ hb_; have hcg1_0 : W8.cell? ⟨g1, 0, none⟩ = some (.int .i64 a) := (blk_cell BKg1.out 0).trans rfl; have hfg1_0 := blk_frozen BKg1.out 0; have hcg1_1 : W8.cell? ⟨g1, 1, none⟩ = some (.int .i64 b) := (blk_cell BKg1.out 1).trans rfl; have hfg1_1 := blk_frozen BKg1.out 1; have hcg2_0 : W8.cell? ⟨g2, 0, none⟩ = some (.int .i64 c) := (blk_cell BKg2.out 0).trans rfl; have hfg2_0 := blk_frozen BKg2.out 0; have hcg2_1 : W8.cell? ⟨g2, 1, none⟩ = some (.int .i64 d) := (blk_cell BKg2.out 1).trans rfl; have hfg2_1 := blk_frozen BKg2.out 1; have hcg3_0 : W8.cell? ⟨g3, 0, none⟩ = some (.int .i64 0) := (blk_cell BKg3.out 0).trans rfl; have hfg3_0 := blk_frozen BKg3.out 0; have hcg3_1 : W8.cell? ⟨g3, 1, none⟩ = some (.int .i64 0) := (blk_cell BKg3.out 1).trans rfl; have hfg3_1 := blk_frozen BKg3.out 1; have hcg4_0 : W8.cell? ⟨g4, 0, none⟩ = some (.int .i64 0) := (blk_cell BKg4.out 0).trans rfl; have hfg4_0 := blk_frozen BKg4.out 0; have hcg4_1 : W8.cell? ⟨g4, 1, none⟩ = some (.int .i64 0) := (blk_cell BKg4.out 1).trans rfl; have hfg4_1 := blk_frozen BKg4.out 1))
  have n_ : Aside0 (((W8.setCell ⟨g4, 0, none⟩ (.int .i64 0)).setCell ⟨g4, 1, none⟩ (.int .i64 0)).heap[g4]? = some (.cells #[.int .i64 0, .int .i64 0] 23 (0, 0))) := ⟨by refine blk_put (cs := #[.int .i64 0, .int .i64 0]) ?_ 1 _ rfl; refine blk_put (cs := #[.int .i64 0, .int .i64 0]) ?_ 0 _ rfl; exact BKg4.out⟩
  have m_ : Aside0 (((W8.setCell ⟨g4, 0, none⟩ (.int .i64 0)).setCell ⟨g4, 1, none⟩ (.int .i64 0)).heap[g1]? = some (.cells #[.int .i64 a, .int .i64 b] 23 (0, 0))) := ⟨(blk_far (blk_far BKg1.out NBg1_g4 _) NBg1_g4 _)⟩
  clear BKg1; have BKg1 := m_; clear m_
  have m_ : Aside0 (((W8.setCell ⟨g4, 0, none⟩ (.int .i64 0)).setCell ⟨g4, 1, none⟩ (.int .i64 0)).heap[g2]? = some (.cells #[.int .i64 c, .int .i64 d] 23 (0, 0))) := ⟨(blk_far (blk_far BKg2.out NBg2_g4 _) NBg2_g4 _)⟩
  clear BKg2; have BKg2 := m_; clear m_
  have m_ : Aside0 (((W8.setCell ⟨g4, 0, none⟩ (.int .i64 0)).setCell ⟨g4, 1, none⟩ (.int .i64 0)).heap[g3]? = some (.cells #[.int .i64 0, .int .i64 0] 23 (0, 0))) := ⟨(blk_far (blk_far BKg3.out NBg3_g4 _) NBg3_g4 _)⟩
  clear BKg3; have BKg3 := m_; clear m_
  have b_ : Aside0 (Below w.heap.size w ((W8.setCell ⟨g4, 0, none⟩ (.int .i64 0)).setCell ⟨g4, 1, none⟩ (.int .i64 0))) := ⟨(below_set (below_set HB.out GEg4.out) GEg4.out)⟩
  clear BKg4 HB; have BKg4 := n_; have HB := b_; clear n_ b_
  clear hcg1_0 hfg1_0
  clear hcg1_1 hfg1_1
  clear hcg2_0 hfg2_0
  clear hcg2_1 hfg2_1
  clear hcg3_0 hfg3_0
  clear hcg3_1 hfg3_1
  clear hcg4_0 hfg4_0
  clear hcg4_1 hfg4_1
  generalize ((W8.setCell ⟨g4, 0, none⟩ (.int .i64 0)).setCell ⟨g4, 1, none⟩ (.int .i64 0)) = W9 at *
  have hcg1_0 : W9.cell? ⟨g1, 0, none⟩ = some (.int .i64 a) := (blk_cell BKg1.out 0).trans rfl
  have hfg1_0 := blk_frozen BKg1.out 0
  have hcg1_1 : W9.cell? ⟨g1, 1, none⟩ = some (.int .i64 b) := (blk_cell BKg1.out 1).trans rfl
  have hfg1_1 := blk_frozen BKg1.out 1
  have hcg2_0 : W9.cell? ⟨g2, 0, none⟩ = some (.int .i64 c) := (blk_cell BKg2.out 0).trans rfl
  have hfg2_0 := blk_frozen BKg2.out 0
  have hcg2_1 : W9.cell? ⟨g2, 1, none⟩ = some (.int .i64 d) := (blk_cell BKg2.out 1).trans rfl
  have hfg2_1 := blk_frozen BKg2.out 1
  have hcg3_0 : W9.cell? ⟨g3, 0, none⟩ = some (.int .i64 0) := (blk_cell BKg3.out 0).trans rfl
  have hfg3_0 := blk_frozen BKg3.out 0
  have hcg3_1 : W9.cell? ⟨g3, 1, none⟩ = some (.int .i64 0) := (blk_cell BKg3.out 1).trans rfl
  have hfg3_1 := blk_frozen BKg3.out 1
  have hcg4_0 : W9.cell? ⟨g4, 0, none⟩ = some (.int .i64 0) := (blk_cell BKg4.out 0).trans rfl
  have hfg4_0 := blk_frozen BKg4.out 0
  have hcg4_1 : W9.cell? ⟨g4, 1, none⟩ = some (.int .i64 0) := (blk_cell BKg4.out 1).trans rfl
  have hfg4_1 := blk_frozen BKg4.out 1
  have hqg1_0 : ∀ u : Aft W9, u.w.cell? ⟨g1, 0, none⟩ = some (.int .i64 a) := fun u => (blk_cell (blk_below BKg1.out u.below) 0).trans rfl
  have hqg1_1 : ∀ u : Aft W9, u.w.cell? ⟨g1, 1, none⟩ = some (.int .i64 b) := fun u => (blk_cell (blk_below BKg1.out u.below) 1).trans rfl
  have hqg2_0 : ∀ u : Aft W9, u.w.cell? ⟨g2, 0, none⟩ = some (.int .i64 c) := fun u => (blk_cell (blk_below BKg2.out u.below) 0).trans rfl
  have hqg2_1 : ∀ u : Aft W9, u.w.cell? ⟨g2, 1, none⟩ = some (.int .i64 d) := fun u => (blk_cell (blk_below BKg2.out u.below) 1).trans rfl
  have hqg3_0 : ∀ u : Aft W9, u.w.cell? ⟨g3, 0, none⟩ = some (.int .i64 0) := fun u => (blk_cell (blk_below BKg3.out u.below) 0).trans rfl
  have hqg3_1 : ∀ u : Aft W9, u.w.cell? ⟨g3, 1, none⟩ = some (.int .i64 0) := fun u => (blk_cell (blk_below BKg3.out u.below) 1).trans rfl
  have hqg4_0 : ∀ u : Aft W9, u.w.cell? ⟨g4, 0, none⟩ = some (.int .i64 0) := fun u => (blk_cell (blk_below BKg4.out u.below) 0).trans rfl
  have hqg4_1 : ∀ u : Aft W9, u.w.cell? ⟨g4, 1, none⟩ = some (.int .i64 0) := fun u => (blk_cell (blk_below BKg4.out u.below) 1).trans rfl
  refine wp_region_aft (by kernel_rfl) (by kernel_rfl) ?_
  repeat (go_big_quiet_step (fail))
  go_big_quiet_step (refine aft_call (fun w => vadd_calls a b c d w ha hb hc hd))
  repeat (go_big_quiet_step (fail))
  go_big_quiet_step (refine aft_call (fun w => rvadd_calls a b c d w ha hb hc hd))
  repeat (go_big_quiet_step (fail))
  go_big_quiet_step (refine aft_call (fun w => vsub_calls a b c d w ha hb hc hd))
  repeat (go_big_quiet_step (fail))
  go_big_quiet_step (refine aft_call (fun w => rvsub_calls a b c d w ha hb hc hd))
  repeat (go_big_quiet_step (fail))
  go_big_quiet_step (refine aft_call (fun w => vscale_calls a b k w ha hb hk))
  repeat (go_big_quiet_step (fail))
  go_big_quiet_step (refine aft_call (fun w => rscale_calls a b k w ha hb hk))
  repeat (go_big_quiet_step (fail))
  go_big_quiet_step (refine aft_call (fun w => vdot_calls a b c d w ha hb hc hd))
  repeat (go_big_quiet_step (fail))
  go_big_quiet_step (refine aft_call (fun w => rdot_calls a b c d w ha hb hc hd))
  repeat (go_big_quiet_step (fail))
  refine wpQuiet_nil ?_
  intro W10 hb_
  clear hqg1_0
  clear hqg1_1
  clear hqg2_0
  clear hqg2_1
  clear hqg3_0
  clear hqg3_1
  clear hqg4_0
  clear hqg4_1
  have n_ := Aside0.mk (blk_below BKg1.out hb_); clear BKg1; have BKg1 := n_; clear n_
  clear hcg1_0 hfg1_0
  clear hcg1_1 hfg1_1
  have n_ := Aside0.mk (blk_below BKg2.out hb_); clear BKg2; have BKg2 := n_; clear n_
  clear hcg2_0 hfg2_0
  clear hcg2_1 hfg2_1
  have n_ := Aside0.mk (blk_below BKg3.out hb_); clear BKg3; have BKg3 := n_; clear n_
  clear hcg3_0 hfg3_0
  clear hcg3_1 hfg3_1
  have n_ := Aside0.mk (blk_below BKg4.out hb_); clear BKg4; have BKg4 := n_; clear n_
  clear hcg4_0 hfg4_0
  clear hcg4_1 hfg4_1
  have n_ := Aside0.mk (below_step HB.out hb_); clear HB; have HB := n_; clear n_
  clear hb_
  have hcg1_0 : W10.cell? ⟨g1, 0, none⟩ = some (.int .i64 a) := (blk_cell BKg1.out 0).trans rfl
  have hfg1_0 := blk_frozen BKg1.out 0
  have hcg1_1 : W10.cell? ⟨g1, 1, none⟩ = some (.int .i64 b) := (blk_cell BKg1.out 1).trans rfl
  have hfg1_1 := blk_frozen BKg1.out 1
  have hcg2_0 : W10.cell? ⟨g2, 0, none⟩ = some (.int .i64 c) := (blk_cell BKg2.out 0).trans rfl
  have hfg2_0 := blk_frozen BKg2.out 0
  have hcg2_1 : W10.cell? ⟨g2, 1, none⟩ = some (.int .i64 d) := (blk_cell BKg2.out 1).trans rfl
  have hfg2_1 := blk_frozen BKg2.out 1
  have hcg3_0 : W10.cell? ⟨g3, 0, none⟩ = some (.int .i64 0) := (blk_cell BKg3.out 0).trans rfl
  have hfg3_0 := blk_frozen BKg3.out 0
  have hcg3_1 : W10.cell? ⟨g3, 1, none⟩ = some (.int .i64 0) := (blk_cell BKg3.out 1).trans rfl
  have hfg3_1 := blk_frozen BKg3.out 1
  have hcg4_0 : W10.cell? ⟨g4, 0, none⟩ = some (.int .i64 0) := (blk_cell BKg4.out 0).trans rfl
  have hfg4_0 := blk_frozen BKg4.out 0
  have hcg4_1 : W10.cell? ⟨g4, 1, none⟩ = some (.int .i64 0) := (blk_cell BKg4.out 1).trans rfl
  have hfg4_1 := blk_frozen BKg4.out 1
  go_wp2_with fail
  have hqg1_0 : ∀ u : Aft W10, u.w.cell? ⟨g1, 0, none⟩ = some (.int .i64 a) := fun u => (blk_cell (blk_below BKg1.out u.below) 0).trans rfl
  have hqg1_1 : ∀ u : Aft W10, u.w.cell? ⟨g1, 1, none⟩ = some (.int .i64 b) := fun u => (blk_cell (blk_below BKg1.out u.below) 1).trans rfl
  have hqg2_0 : ∀ u : Aft W10, u.w.cell? ⟨g2, 0, none⟩ = some (.int .i64 c) := fun u => (blk_cell (blk_below BKg2.out u.below) 0).trans rfl
  have hqg2_1 : ∀ u : Aft W10, u.w.cell? ⟨g2, 1, none⟩ = some (.int .i64 d) := fun u => (blk_cell (blk_below BKg2.out u.below) 1).trans rfl
  have hqg3_0 : ∀ u : Aft W10, u.w.cell? ⟨g3, 0, none⟩ = some (.int .i64 0) := fun u => (blk_cell (blk_below BKg3.out u.below) 0).trans rfl
  have hqg3_1 : ∀ u : Aft W10, u.w.cell? ⟨g3, 1, none⟩ = some (.int .i64 0) := fun u => (blk_cell (blk_below BKg3.out u.below) 1).trans rfl
  have hqg4_0 : ∀ u : Aft W10, u.w.cell? ⟨g4, 0, none⟩ = some (.int .i64 0) := fun u => (blk_cell (blk_below BKg4.out u.below) 0).trans rfl
  have hqg4_1 : ∀ u : Aft W10, u.w.cell? ⟨g4, 1, none⟩ = some (.int .i64 0) := fun u => (blk_cell (blk_below BKg4.out u.below) 1).trans rfl
  refine wp_region_aft (by kernel_rfl) (by kernel_rfl) ?_
  repeat (go_big_quiet_step (fail))
  go_big_quiet_step (refine aft_call (fun w => long_val a b w ha hb))
  repeat (go_big_quiet_step (fail))
  go_big_quiet_step (refine aft_call (fun w => rlong_calls a b w ha hb))
  repeat (go_big_quiet_step (fail))
  go_big_quiet_step (refine aft_call (fun w => vnear_calls a b c d k w ha hb hc hd hk))
  repeat (go_big_quiet_step (fail))
  go_big_quiet_step (refine aft_call (fun w => rnear_calls a b c d k w ha hb hc hd hk))
  repeat (go_big_quiet_step (fail))
  go_big_quiet_step (refine aft_call (fun w => vmean_calls a b c d w))
  repeat (go_big_quiet_step (fail))
  go_big_quiet_step (refine aft_call (fun w => rmean_calls a b c d w ha hb hc hd))
  repeat (go_big_quiet_step (fail))
  refine wpQuiet_nil ?_
  intro W11 hb_
  clear hqg1_0
  clear hqg1_1
  clear hqg2_0
  clear hqg2_1
  clear hqg3_0
  clear hqg3_1
  clear hqg4_0
  clear hqg4_1
  have n_ := Aside0.mk (blk_below BKg1.out hb_); clear BKg1; have BKg1 := n_; clear n_
  clear hcg1_0 hfg1_0
  clear hcg1_1 hfg1_1
  have n_ := Aside0.mk (blk_below BKg2.out hb_); clear BKg2; have BKg2 := n_; clear n_
  clear hcg2_0 hfg2_0
  clear hcg2_1 hfg2_1
  have n_ := Aside0.mk (blk_below BKg3.out hb_); clear BKg3; have BKg3 := n_; clear n_
  clear hcg3_0 hfg3_0
  clear hcg3_1 hfg3_1
  have n_ := Aside0.mk (blk_below BKg4.out hb_); clear BKg4; have BKg4 := n_; clear n_
  clear hcg4_0 hfg4_0
  clear hcg4_1 hfg4_1
  have n_ := Aside0.mk (below_step HB.out hb_); clear HB; have HB := n_; clear n_
  clear hb_
  have hcg1_0 : W11.cell? ⟨g1, 0, none⟩ = some (.int .i64 a) := (blk_cell BKg1.out 0).trans rfl
  have hfg1_0 := blk_frozen BKg1.out 0
  have hcg1_1 : W11.cell? ⟨g1, 1, none⟩ = some (.int .i64 b) := (blk_cell BKg1.out 1).trans rfl
  have hfg1_1 := blk_frozen BKg1.out 1
  have hcg2_0 : W11.cell? ⟨g2, 0, none⟩ = some (.int .i64 c) := (blk_cell BKg2.out 0).trans rfl
  have hfg2_0 := blk_frozen BKg2.out 0
  have hcg2_1 : W11.cell? ⟨g2, 1, none⟩ = some (.int .i64 d) := (blk_cell BKg2.out 1).trans rfl
  have hfg2_1 := blk_frozen BKg2.out 1
  have hcg3_0 : W11.cell? ⟨g3, 0, none⟩ = some (.int .i64 0) := (blk_cell BKg3.out 0).trans rfl
  have hfg3_0 := blk_frozen BKg3.out 0
  have hcg3_1 : W11.cell? ⟨g3, 1, none⟩ = some (.int .i64 0) := (blk_cell BKg3.out 1).trans rfl
  have hfg3_1 := blk_frozen BKg3.out 1
  have hcg4_0 : W11.cell? ⟨g4, 0, none⟩ = some (.int .i64 0) := (blk_cell BKg4.out 0).trans rfl
  have hfg4_0 := blk_frozen BKg4.out 0
  have hcg4_1 : W11.cell? ⟨g4, 1, none⟩ = some (.int .i64 0) := (blk_cell BKg4.out 1).trans rfl
  have hfg4_1 := blk_frozen BKg4.out 1
  go_wp2
  go_ret
  exact ⟨rfl, (by repeat (first | (with_reducible first | exact HB.out | apply below_alloc | apply pw_below_drewN | apply below_drew1) | exact HB.out))⟩
set_option maxHeartbeats 8000000 in
set_option maxRecDepth 100000 in
theorem vecworks_2 (a b c d k : Int) (w : World) (ha : I64 a) (hb : I64 b) (hc : I64 c) (hd : I64 d) (hk : I64 k) (hpos : 0 ≤ k) :
    Calls Try.prog 7 #[.agg #[.int .i64 a, .int .i64 b], .agg #[.int .i64 c, .int .i64 d], .int .i64 k] w
      fun e w' => e = .returned (.bool true) ∧ Below w.heap.size w w' := by
  have HB := Aside0.mk (Below.refl w.heap.size w)
  have k2 := hk.2
  go_enter Try.func7, Try.ntmps7
  go_wp2_with (first | ((with_reducible refine gate_dst (N := 3) rfl ?_); refine box_event ?hg (N := 3) ?hd (cs := #[.int .i64 a, .int .i64 b]) (t := 23) ?hr ?_; (case hd => rfl); (case hg => rfl); (case hr => first | (go_simp; done) | (go_simp; rfl)); intro g1 hg_ W1 hbox_ hb_; have GEg1 := Aside0.mk ((by rw [hg_]; exact (below_size HB.out)) : w.heap.size ≤ g1); clear hg_; have n_ := Aside0.mk (below_step HB.out hb_); clear HB; have HB := n_; clear n_; have BKg1 := Aside0.mk hbox_; clear hbox_ hb_; have hcg1_0 : W1.cell? ⟨g1, 0, none⟩ = some (.int .i64 a) := (blk_cell BKg1.out 0).trans rfl; have hfg1_0 := blk_frozen BKg1.out 0; have hcg1_1 : W1.cell? ⟨g1, 1, none⟩ = some (.int .i64 b) := (blk_cell BKg1.out 1).trans rfl; have hfg1_1 := blk_frozen BKg1.out 1) | ((with_reducible refine gate_dst (N := 4) rfl ?_); refine box_event ?hg (N := 4) ?hd (cs := #[.int .i64 c, .int .i64 d]) (t := 23) ?hr ?_; (case hd => rfl); (case hg => rfl); (case hr => first | (go_simp; done) | (go_simp; rfl)); intro g2 hg_ W2 hbox_ hb_; have GEg2 := Aside0.mk ((by rw [hg_]; exact (below_size HB.out)) : w.heap.size ≤ g2); have NBg1_g2 : g1 ≠ g2 := (by rw [hg_]; exact Nat.ne_of_lt (blk_lt BKg1.out)); have NBg2_g1 : g2 ≠ g1 := Ne.symm NBg1_g2; clear hg_; have n_ := Aside0.mk (blk_below BKg1.out hb_); clear BKg1; have BKg1 := n_; clear n_; clear hcg1_0 hfg1_0; clear hcg1_1 hfg1_1; have n_ := Aside0.mk (below_step HB.out hb_); clear HB; have HB := n_; clear n_; have BKg2 := Aside0.mk hbox_; clear hbox_ hb_; have hcg1_0 : W2.cell? ⟨g1, 0, none⟩ = some (.int .i64 a) := (blk_cell BKg1.out 0).trans rfl; have hfg1_0 := blk_frozen BKg1.out 0; have hcg1_1 : W2.cell? ⟨g1, 1, none⟩ = some (.int .i64 b) := (blk_cell BKg1.out 1).trans rfl; have hfg1_1 := blk_frozen BKg1.out 1; have hcg2_0 : W2.cell? ⟨g2, 0, none⟩ = some (.int .i64 c) := (blk_cell BKg2.out 0).trans rfl; have hfg2_0 := blk_frozen BKg2.out 0; have hcg2_1 : W2.cell? ⟨g2, 1, none⟩ = some (.int .i64 d) := (blk_cell BKg2.out 1).trans rfl; have hfg2_1 := blk_frozen BKg2.out 1))
  ((with_reducible refine (awake_calls _).mono ?_); rintro e_ W3 ⟨rfl, hb_⟩)
  have n_ := Aside0.mk (blk_below BKg1.out hb_); clear BKg1; have BKg1 := n_; clear n_
  clear hcg1_0 hfg1_0
  clear hcg1_1 hfg1_1
  have n_ := Aside0.mk (blk_below BKg2.out hb_); clear BKg2; have BKg2 := n_; clear n_
  clear hcg2_0 hfg2_0
  clear hcg2_1 hfg2_1
  have n_ := Aside0.mk (below_step HB.out hb_); clear HB; have HB := n_; clear n_
  clear hb_
  have hcg1_0 : W3.cell? ⟨g1, 0, none⟩ = some (.int .i64 a) := (blk_cell BKg1.out 0).trans rfl
  have hfg1_0 := blk_frozen BKg1.out 0
  have hcg1_1 : W3.cell? ⟨g1, 1, none⟩ = some (.int .i64 b) := (blk_cell BKg1.out 1).trans rfl
  have hfg1_1 := blk_frozen BKg1.out 1
  have hcg2_0 : W3.cell? ⟨g2, 0, none⟩ = some (.int .i64 c) := (blk_cell BKg2.out 0).trans rfl
  have hfg2_0 := blk_frozen BKg2.out 0
  have hcg2_1 : W3.cell? ⟨g2, 1, none⟩ = some (.int .i64 d) := (blk_cell BKg2.out 1).trans rfl
  have hfg2_1 := blk_frozen BKg2.out 1
  go_wp2_with fail
  ((with_reducible refine (vclamp_yes _ _ _ _ hpos k2).mono ?_); rintro e_ W4 ⟨rfl, hb_⟩)
  have n_ := Aside0.mk (blk_below BKg1.out hb_); clear BKg1; have BKg1 := n_; clear n_
  clear hcg1_0 hfg1_0
  clear hcg1_1 hfg1_1
  have n_ := Aside0.mk (blk_below BKg2.out hb_); clear BKg2; have BKg2 := n_; clear n_
  clear hcg2_0 hfg2_0
  clear hcg2_1 hfg2_1
  have n_ := Aside0.mk (below_step HB.out hb_); clear HB; have HB := n_; clear n_
  clear hb_
  have hcg1_0 : W4.cell? ⟨g1, 0, none⟩ = some (.int .i64 a) := (blk_cell BKg1.out 0).trans rfl
  have hfg1_0 := blk_frozen BKg1.out 0
  have hcg1_1 : W4.cell? ⟨g1, 1, none⟩ = some (.int .i64 b) := (blk_cell BKg1.out 1).trans rfl
  have hfg1_1 := blk_frozen BKg1.out 1
  have hcg2_0 : W4.cell? ⟨g2, 0, none⟩ = some (.int .i64 c) := (blk_cell BKg2.out 0).trans rfl
  have hfg2_0 := blk_frozen BKg2.out 0
  have hcg2_1 : W4.cell? ⟨g2, 1, none⟩ = some (.int .i64 d) := (blk_cell BKg2.out 1).trans rfl
  have hfg2_1 := blk_frozen BKg2.out 1
  go_wp2_with (first | ((with_reducible refine gate_dst (N := 8) rfl ?_); refine box_event ?hg (N := 8) ?hd (cs := #[.int .i64 0, .int .i64 0]) (t := 23) ?hr ?_; (case hd => rfl); (case hg => rfl); (case hr => first | (go_simp; done) | (go_simp; rfl)); intro g3 hg_ W5 hbox_ hb_; have GEg3 := Aside0.mk ((by rw [hg_]; exact (below_size HB.out)) : w.heap.size ≤ g3); have NBg1_g3 : g1 ≠ g3 := (by rw [hg_]; exact Nat.ne_of_lt (blk_lt BKg1.out)); have NBg3_g1 : g3 ≠ g1 := Ne.symm NBg1_g3; have NBg2_g3 : g2 ≠ g3 := (by rw [hg_]; exact Nat.ne_of_lt (blk_lt BKg2.out)); have NBg3_g2 : g3 ≠ g2 := Ne.symm NBg2_g3; clear hg_; have n_ := Aside0.mk (blk_below BKg1.out hb_); clear BKg1; have BKg1 := n_; clear n_; clear hcg1_0 hfg1_0; clear hcg1_1 hfg1_1; have n_ := Aside0.mk (blk_below BKg2.out hb_); clear BKg2; have BKg2 := n_; clear n_; clear hcg2_0 hfg2_0; clear hcg2_1 hfg2_1; have n_ := Aside0.mk (below_step HB.out hb_); clear HB; have HB := n_; clear n_; have BKg3 := Aside0.mk hbox_; clear hbox_ hb_; have hcg1_0 : W5.cell? ⟨g1, 0, none⟩ = some (.int .i64 a) := (blk_cell BKg1.out 0).trans rfl; have hfg1_0 := blk_frozen BKg1.out 0; have hcg1_1 : W5.cell? ⟨g1, 1, none⟩ = some (.int .i64 b) := (blk_cell BKg1.out 1).trans rfl; have hfg1_1 := blk_frozen BKg1.out 1; have hcg2_0 : W5.cell? ⟨g2, 0, none⟩ = some (.int .i64 c) := (blk_cell BKg2.out 0).trans rfl; have hfg2_0 := blk_frozen BKg2.out 0; have hcg2_1 : W5.cell? ⟨g2, 1, none⟩ = some (.int .i64 d) := (blk_cell BKg2.out 1).trans rfl; have hfg2_1 := blk_frozen BKg2.out 1; have hcg3_0 : W5.cell? ⟨g3, 0, none⟩ = some (.int .i64 0) := (blk_cell BKg3.out 0).trans rfl; have hfg3_0 := blk_frozen BKg3.out 0; have hcg3_1 : W5.cell? ⟨g3, 1, none⟩ = some (.int .i64 0) := (blk_cell BKg3.out 1).trans rfl; have hfg3_1 := blk_frozen BKg3.out 1))
  have n_ : Aside0 (((W5.setCell ⟨g3, 0, none⟩ (.int .i64 (clampI a k))).setCell ⟨g3, 1, none⟩ (.int .i64 (clampI b k))).heap[g3]? = some (.cells #[.int .i64 (clampI a k), .int .i64 (clampI b k)] 23 (0, 0))) := ⟨by refine blk_put (cs := #[.int .i64 (clampI a k), .int .i64 0]) ?_ 1 _ rfl; refine blk_put (cs := #[.int .i64 0, .int .i64 0]) ?_ 0 _ rfl; exact BKg3.out⟩
  have m_ : Aside0 (((W5.setCell ⟨g3, 0, none⟩ (.int .i64 (clampI a k))).setCell ⟨g3, 1, none⟩ (.int .i64 (clampI b k))).heap[g1]? = some (.cells #[.int .i64 a, .int .i64 b] 23 (0, 0))) := ⟨(blk_far (blk_far BKg1.out NBg1_g3 _) NBg1_g3 _)⟩
  clear BKg1; have BKg1 := m_; clear m_
  have m_ : Aside0 (((W5.setCell ⟨g3, 0, none⟩ (.int .i64 (clampI a k))).setCell ⟨g3, 1, none⟩ (.int .i64 (clampI b k))).heap[g2]? = some (.cells #[.int .i64 c, .int .i64 d] 23 (0, 0))) := ⟨(blk_far (blk_far BKg2.out NBg2_g3 _) NBg2_g3 _)⟩
  clear BKg2; have BKg2 := m_; clear m_
  have b_ : Aside0 (Below w.heap.size w ((W5.setCell ⟨g3, 0, none⟩ (.int .i64 (clampI a k))).setCell ⟨g3, 1, none⟩ (.int .i64 (clampI b k)))) := ⟨(below_set (below_set HB.out GEg3.out) GEg3.out)⟩
  clear BKg3 HB; have BKg3 := n_; have HB := b_; clear n_ b_
  clear hcg1_0 hfg1_0
  clear hcg1_1 hfg1_1
  clear hcg2_0 hfg2_0
  clear hcg2_1 hfg2_1
  clear hcg3_0 hfg3_0
  clear hcg3_1 hfg3_1
  generalize ((W5.setCell ⟨g3, 0, none⟩ (.int .i64 (clampI a k))).setCell ⟨g3, 1, none⟩ (.int .i64 (clampI b k))) = W6 at *
  have hcg1_0 : W6.cell? ⟨g1, 0, none⟩ = some (.int .i64 a) := (blk_cell BKg1.out 0).trans rfl
  have hfg1_0 := blk_frozen BKg1.out 0
  have hcg1_1 : W6.cell? ⟨g1, 1, none⟩ = some (.int .i64 b) := (blk_cell BKg1.out 1).trans rfl
  have hfg1_1 := blk_frozen BKg1.out 1
  have hcg2_0 : W6.cell? ⟨g2, 0, none⟩ = some (.int .i64 c) := (blk_cell BKg2.out 0).trans rfl
  have hfg2_0 := blk_frozen BKg2.out 0
  have hcg2_1 : W6.cell? ⟨g2, 1, none⟩ = some (.int .i64 d) := (blk_cell BKg2.out 1).trans rfl
  have hfg2_1 := blk_frozen BKg2.out 1
  have hcg3_0 : W6.cell? ⟨g3, 0, none⟩ = some (.int .i64 (clampI a k)) := (blk_cell BKg3.out 0).trans rfl
  have hfg3_0 := blk_frozen BKg3.out 0
  have hcg3_1 : W6.cell? ⟨g3, 1, none⟩ = some (.int .i64 (clampI b k)) := (blk_cell BKg3.out 1).trans rfl
  have hfg3_1 := blk_frozen BKg3.out 1
  ((with_reducible refine (rclamp_yes _ _ _ _ hpos k2).mono ?_); rintro e_ W7 ⟨rfl, hb_⟩)
  have n_ := Aside0.mk (blk_below BKg1.out hb_); clear BKg1; have BKg1 := n_; clear n_
  clear hcg1_0 hfg1_0
  clear hcg1_1 hfg1_1
  have n_ := Aside0.mk (blk_below BKg2.out hb_); clear BKg2; have BKg2 := n_; clear n_
  clear hcg2_0 hfg2_0
  clear hcg2_1 hfg2_1
  have n_ := Aside0.mk (blk_below BKg3.out hb_); clear BKg3; have BKg3 := n_; clear n_
  clear hcg3_0 hfg3_0
  clear hcg3_1 hfg3_1
  have n_ := Aside0.mk (below_step HB.out hb_); clear HB; have HB := n_; clear n_
  clear hb_
  have hcg1_0 : W7.cell? ⟨g1, 0, none⟩ = some (.int .i64 a) := (blk_cell BKg1.out 0).trans rfl
  have hfg1_0 := blk_frozen BKg1.out 0
  have hcg1_1 : W7.cell? ⟨g1, 1, none⟩ = some (.int .i64 b) := (blk_cell BKg1.out 1).trans rfl
  have hfg1_1 := blk_frozen BKg1.out 1
  have hcg2_0 : W7.cell? ⟨g2, 0, none⟩ = some (.int .i64 c) := (blk_cell BKg2.out 0).trans rfl
  have hfg2_0 := blk_frozen BKg2.out 0
  have hcg2_1 : W7.cell? ⟨g2, 1, none⟩ = some (.int .i64 d) := (blk_cell BKg2.out 1).trans rfl
  have hfg2_1 := blk_frozen BKg2.out 1
  have hcg3_0 : W7.cell? ⟨g3, 0, none⟩ = some (.int .i64 (clampI a k)) := (blk_cell BKg3.out 0).trans rfl
  have hfg3_0 := blk_frozen BKg3.out 0
  have hcg3_1 : W7.cell? ⟨g3, 1, none⟩ = some (.int .i64 (clampI b k)) := (blk_cell BKg3.out 1).trans rfl
  have hfg3_1 := blk_frozen BKg3.out 1
  go_wp2_with (first | ((with_reducible refine gate_dst (N := 10) rfl ?_); refine box_event ?hg (N := 10) ?hd (cs := #[.int .i64 0, .int .i64 0]) (t := 23) ?hr ?_; (case hd => rfl); (case hg => rfl); (case hr => first | (go_simp; done) | (go_simp; rfl)); intro g4 hg_ W8 hbox_ hb_; have GEg4 := Aside0.mk ((by rw [hg_]; exact (below_size HB.out)) : w.heap.size ≤ g4); have NBg1_g4 : g1 ≠ g4 := (by rw [hg_]; exact Nat.ne_of_lt (blk_lt BKg1.out)); have NBg4_g1 : g4 ≠ g1 := Ne.symm NBg1_g4; have NBg2_g4 : g2 ≠ g4 := (by rw [hg_]; exact Nat.ne_of_lt (blk_lt BKg2.out)); have NBg4_g2 : g4 ≠ g2 := Ne.symm NBg2_g4; have NBg3_g4 : g3 ≠ g4 := (by rw [hg_]; exact Nat.ne_of_lt (blk_lt BKg3.out)); have NBg4_g3 : g4 ≠ g3 := Ne.symm NBg3_g4; clear hg_; have n_ := Aside0.mk (blk_below BKg1.out hb_); clear BKg1; have BKg1 := n_; clear n_; clear hcg1_0 hfg1_0; clear hcg1_1 hfg1_1; have n_ := Aside0.mk (blk_below BKg2.out hb_); clear BKg2; have BKg2 := n_; clear n_; clear hcg2_0 hfg2_0; clear hcg2_1 hfg2_1; have n_ := Aside0.mk (blk_below BKg3.out hb_); clear BKg3; have BKg3 := n_; clear n_; clear hcg3_0 hfg3_0; clear hcg3_1 hfg3_1; have n_ := Aside0.mk (below_step HB.out hb_); clear HB; have HB := n_; clear n_; have BKg4 := Aside0.mk hbox_; clear hbox_ hb_; have hcg1_0 : W8.cell? ⟨g1, 0, none⟩ = some (.int .i64 a) := (blk_cell BKg1.out 0).trans rfl; have hfg1_0 := blk_frozen BKg1.out 0; have hcg1_1 : W8.cell? ⟨g1, 1, none⟩ = some (.int .i64 b) := (blk_cell BKg1.out 1).trans rfl; have hfg1_1 := blk_frozen BKg1.out 1; have hcg2_0 : W8.cell? ⟨g2, 0, none⟩ = some (.int .i64 c) := (blk_cell BKg2.out 0).trans rfl; have hfg2_0 := blk_frozen BKg2.out 0; have hcg2_1 : W8.cell? ⟨g2, 1, none⟩ = some (.int .i64 d) := (blk_cell BKg2.out 1).trans rfl; have hfg2_1 := blk_frozen BKg2.out 1; have hcg3_0 : W8.cell? ⟨g3, 0, none⟩ = some (.int .i64 (clampI a k)) := (blk_cell BKg3.out 0).trans rfl; have hfg3_0 := blk_frozen BKg3.out 0; have hcg3_1 : W8.cell? ⟨g3, 1, none⟩ = some (.int .i64 (clampI b k)) := (blk_cell BKg3.out 1).trans rfl; have hfg3_1 := blk_frozen BKg3.out 1; have hcg4_0 : W8.cell? ⟨g4, 0, none⟩ = some (.int .i64 0) := (blk_cell BKg4.out 0).trans rfl; have hfg4_0 := blk_frozen BKg4.out 0; have hcg4_1 : W8.cell? ⟨g4, 1, none⟩ = some (.int .i64 0) := (blk_cell BKg4.out 1).trans rfl; have hfg4_1 := blk_frozen BKg4.out 1))
  have n_ : Aside0 (((W8.setCell ⟨g4, 0, none⟩ (.int .i64 (clampI a k))).setCell ⟨g4, 1, none⟩ (.int .i64 (clampI b k))).heap[g4]? = some (.cells #[.int .i64 (clampI a k), .int .i64 (clampI b k)] 23 (0, 0))) := ⟨by refine blk_put (cs := #[.int .i64 (clampI a k), .int .i64 0]) ?_ 1 _ rfl; refine blk_put (cs := #[.int .i64 0, .int .i64 0]) ?_ 0 _ rfl; exact BKg4.out⟩
  have m_ : Aside0 (((W8.setCell ⟨g4, 0, none⟩ (.int .i64 (clampI a k))).setCell ⟨g4, 1, none⟩ (.int .i64 (clampI b k))).heap[g1]? = some (.cells #[.int .i64 a, .int .i64 b] 23 (0, 0))) := ⟨(blk_far (blk_far BKg1.out NBg1_g4 _) NBg1_g4 _)⟩
  clear BKg1; have BKg1 := m_; clear m_
  have m_ : Aside0 (((W8.setCell ⟨g4, 0, none⟩ (.int .i64 (clampI a k))).setCell ⟨g4, 1, none⟩ (.int .i64 (clampI b k))).heap[g2]? = some (.cells #[.int .i64 c, .int .i64 d] 23 (0, 0))) := ⟨(blk_far (blk_far BKg2.out NBg2_g4 _) NBg2_g4 _)⟩
  clear BKg2; have BKg2 := m_; clear m_
  have m_ : Aside0 (((W8.setCell ⟨g4, 0, none⟩ (.int .i64 (clampI a k))).setCell ⟨g4, 1, none⟩ (.int .i64 (clampI b k))).heap[g3]? = some (.cells #[.int .i64 (clampI a k), .int .i64 (clampI b k)] 23 (0, 0))) := ⟨(blk_far (blk_far BKg3.out NBg3_g4 _) NBg3_g4 _)⟩
  clear BKg3; have BKg3 := m_; clear m_
  have b_ : Aside0 (Below w.heap.size w ((W8.setCell ⟨g4, 0, none⟩ (.int .i64 (clampI a k))).setCell ⟨g4, 1, none⟩ (.int .i64 (clampI b k)))) := ⟨(below_set (below_set HB.out GEg4.out) GEg4.out)⟩
  clear BKg4 HB; have BKg4 := n_; have HB := b_; clear n_ b_
  clear hcg1_0 hfg1_0
  clear hcg1_1 hfg1_1
  clear hcg2_0 hfg2_0
  clear hcg2_1 hfg2_1
  clear hcg3_0 hfg3_0
  clear hcg3_1 hfg3_1
  clear hcg4_0 hfg4_0
  clear hcg4_1 hfg4_1
  generalize ((W8.setCell ⟨g4, 0, none⟩ (.int .i64 (clampI a k))).setCell ⟨g4, 1, none⟩ (.int .i64 (clampI b k))) = W9 at *
  have hcg1_0 : W9.cell? ⟨g1, 0, none⟩ = some (.int .i64 a) := (blk_cell BKg1.out 0).trans rfl
  have hfg1_0 := blk_frozen BKg1.out 0
  have hcg1_1 : W9.cell? ⟨g1, 1, none⟩ = some (.int .i64 b) := (blk_cell BKg1.out 1).trans rfl
  have hfg1_1 := blk_frozen BKg1.out 1
  have hcg2_0 : W9.cell? ⟨g2, 0, none⟩ = some (.int .i64 c) := (blk_cell BKg2.out 0).trans rfl
  have hfg2_0 := blk_frozen BKg2.out 0
  have hcg2_1 : W9.cell? ⟨g2, 1, none⟩ = some (.int .i64 d) := (blk_cell BKg2.out 1).trans rfl
  have hfg2_1 := blk_frozen BKg2.out 1
  have hcg3_0 : W9.cell? ⟨g3, 0, none⟩ = some (.int .i64 (clampI a k)) := (blk_cell BKg3.out 0).trans rfl
  have hfg3_0 := blk_frozen BKg3.out 0
  have hcg3_1 : W9.cell? ⟨g3, 1, none⟩ = some (.int .i64 (clampI b k)) := (blk_cell BKg3.out 1).trans rfl
  have hfg3_1 := blk_frozen BKg3.out 1
  have hcg4_0 : W9.cell? ⟨g4, 0, none⟩ = some (.int .i64 (clampI a k)) := (blk_cell BKg4.out 0).trans rfl
  have hfg4_0 := blk_frozen BKg4.out 0
  have hcg4_1 : W9.cell? ⟨g4, 1, none⟩ = some (.int .i64 (clampI b k)) := (blk_cell BKg4.out 1).trans rfl
  have hfg4_1 := blk_frozen BKg4.out 1
  have hqg1_0 : ∀ u : Aft W9, u.w.cell? ⟨g1, 0, none⟩ = some (.int .i64 a) := fun u => (blk_cell (blk_below BKg1.out u.below) 0).trans rfl
  have hqg1_1 : ∀ u : Aft W9, u.w.cell? ⟨g1, 1, none⟩ = some (.int .i64 b) := fun u => (blk_cell (blk_below BKg1.out u.below) 1).trans rfl
  have hqg2_0 : ∀ u : Aft W9, u.w.cell? ⟨g2, 0, none⟩ = some (.int .i64 c) := fun u => (blk_cell (blk_below BKg2.out u.below) 0).trans rfl
  have hqg2_1 : ∀ u : Aft W9, u.w.cell? ⟨g2, 1, none⟩ = some (.int .i64 d) := fun u => (blk_cell (blk_below BKg2.out u.below) 1).trans rfl
  have hqg3_0 : ∀ u : Aft W9, u.w.cell? ⟨g3, 0, none⟩ = some (.int .i64 (clampI a k)) := fun u => (blk_cell (blk_below BKg3.out u.below) 0).trans rfl
  have hqg3_1 : ∀ u : Aft W9, u.w.cell? ⟨g3, 1, none⟩ = some (.int .i64 (clampI b k)) := fun u => (blk_cell (blk_below BKg3.out u.below) 1).trans rfl
  have hqg4_0 : ∀ u : Aft W9, u.w.cell? ⟨g4, 0, none⟩ = some (.int .i64 (clampI a k)) := fun u => (blk_cell (blk_below BKg4.out u.below) 0).trans rfl
  have hqg4_1 : ∀ u : Aft W9, u.w.cell? ⟨g4, 1, none⟩ = some (.int .i64 (clampI b k)) := fun u => (blk_cell (blk_below BKg4.out u.below) 1).trans rfl
  refine wp_region_aft (by kernel_rfl) (by kernel_rfl) ?_
  repeat (go_big_quiet_step (fail))
  go_big_quiet_step (refine aft_call (fun w => vadd_calls a b c d w ha hb hc hd))
  repeat (go_big_quiet_step (fail))
  go_big_quiet_step (refine aft_call (fun w => rvadd_calls a b c d w ha hb hc hd))
  repeat (go_big_quiet_step (fail))
  go_big_quiet_step (refine aft_call (fun w => vsub_calls a b c d w ha hb hc hd))
  repeat (go_big_quiet_step (fail))
  go_big_quiet_step (refine aft_call (fun w => rvsub_calls a b c d w ha hb hc hd))
  repeat (go_big_quiet_step (fail))
  go_big_quiet_step (refine aft_call (fun w => vscale_calls a b k w ha hb hk))
  repeat (go_big_quiet_step (fail))
  go_big_quiet_step (refine aft_call (fun w => rscale_calls a b k w ha hb hk))
  repeat (go_big_quiet_step (fail))
  go_big_quiet_step (refine aft_call (fun w => vdot_calls a b c d w ha hb hc hd))
  repeat (go_big_quiet_step (fail))
  go_big_quiet_step (refine aft_call (fun w => rdot_calls a b c d w ha hb hc hd))
  repeat (go_big_quiet_step (fail))
  refine wpQuiet_nil ?_
  intro W10 hb_
  clear hqg1_0
  clear hqg1_1
  clear hqg2_0
  clear hqg2_1
  clear hqg3_0
  clear hqg3_1
  clear hqg4_0
  clear hqg4_1
  have n_ := Aside0.mk (blk_below BKg1.out hb_); clear BKg1; have BKg1 := n_; clear n_
  clear hcg1_0 hfg1_0
  clear hcg1_1 hfg1_1
  have n_ := Aside0.mk (blk_below BKg2.out hb_); clear BKg2; have BKg2 := n_; clear n_
  clear hcg2_0 hfg2_0
  clear hcg2_1 hfg2_1
  have n_ := Aside0.mk (blk_below BKg3.out hb_); clear BKg3; have BKg3 := n_; clear n_
  clear hcg3_0 hfg3_0
  clear hcg3_1 hfg3_1
  have n_ := Aside0.mk (blk_below BKg4.out hb_); clear BKg4; have BKg4 := n_; clear n_
  clear hcg4_0 hfg4_0
  clear hcg4_1 hfg4_1
  have n_ := Aside0.mk (below_step HB.out hb_); clear HB; have HB := n_; clear n_
  clear hb_
  have hcg1_0 : W10.cell? ⟨g1, 0, none⟩ = some (.int .i64 a) := (blk_cell BKg1.out 0).trans rfl
  have hfg1_0 := blk_frozen BKg1.out 0
  have hcg1_1 : W10.cell? ⟨g1, 1, none⟩ = some (.int .i64 b) := (blk_cell BKg1.out 1).trans rfl
  have hfg1_1 := blk_frozen BKg1.out 1
  have hcg2_0 : W10.cell? ⟨g2, 0, none⟩ = some (.int .i64 c) := (blk_cell BKg2.out 0).trans rfl
  have hfg2_0 := blk_frozen BKg2.out 0
  have hcg2_1 : W10.cell? ⟨g2, 1, none⟩ = some (.int .i64 d) := (blk_cell BKg2.out 1).trans rfl
  have hfg2_1 := blk_frozen BKg2.out 1
  have hcg3_0 : W10.cell? ⟨g3, 0, none⟩ = some (.int .i64 (clampI a k)) := (blk_cell BKg3.out 0).trans rfl
  have hfg3_0 := blk_frozen BKg3.out 0
  have hcg3_1 : W10.cell? ⟨g3, 1, none⟩ = some (.int .i64 (clampI b k)) := (blk_cell BKg3.out 1).trans rfl
  have hfg3_1 := blk_frozen BKg3.out 1
  have hcg4_0 : W10.cell? ⟨g4, 0, none⟩ = some (.int .i64 (clampI a k)) := (blk_cell BKg4.out 0).trans rfl
  have hfg4_0 := blk_frozen BKg4.out 0
  have hcg4_1 : W10.cell? ⟨g4, 1, none⟩ = some (.int .i64 (clampI b k)) := (blk_cell BKg4.out 1).trans rfl
  have hfg4_1 := blk_frozen BKg4.out 1
  go_wp2_with fail
  have hqg1_0 : ∀ u : Aft W10, u.w.cell? ⟨g1, 0, none⟩ = some (.int .i64 a) := fun u => (blk_cell (blk_below BKg1.out u.below) 0).trans rfl
  have hqg1_1 : ∀ u : Aft W10, u.w.cell? ⟨g1, 1, none⟩ = some (.int .i64 b) := fun u => (blk_cell (blk_below BKg1.out u.below) 1).trans rfl
  have hqg2_0 : ∀ u : Aft W10, u.w.cell? ⟨g2, 0, none⟩ = some (.int .i64 c) := fun u => (blk_cell (blk_below BKg2.out u.below) 0).trans rfl
  have hqg2_1 : ∀ u : Aft W10, u.w.cell? ⟨g2, 1, none⟩ = some (.int .i64 d) := fun u => (blk_cell (blk_below BKg2.out u.below) 1).trans rfl
  have hqg3_0 : ∀ u : Aft W10, u.w.cell? ⟨g3, 0, none⟩ = some (.int .i64 (clampI a k)) := fun u => (blk_cell (blk_below BKg3.out u.below) 0).trans rfl
  have hqg3_1 : ∀ u : Aft W10, u.w.cell? ⟨g3, 1, none⟩ = some (.int .i64 (clampI b k)) := fun u => (blk_cell (blk_below BKg3.out u.below) 1).trans rfl
  have hqg4_0 : ∀ u : Aft W10, u.w.cell? ⟨g4, 0, none⟩ = some (.int .i64 (clampI a k)) := fun u => (blk_cell (blk_below BKg4.out u.below) 0).trans rfl
  have hqg4_1 : ∀ u : Aft W10, u.w.cell? ⟨g4, 1, none⟩ = some (.int .i64 (clampI b k)) := fun u => (blk_cell (blk_below BKg4.out u.below) 1).trans rfl
  refine wp_region_aft (by kernel_rfl) (by kernel_rfl) ?_
  repeat (go_big_quiet_step (fail))
  go_big_quiet_step (refine aft_call (fun w => long_val a b w ha hb))
  repeat (go_big_quiet_step (fail))
  go_big_quiet_step (refine aft_call (fun w => rlong_calls a b w ha hb))
  repeat (go_big_quiet_step (fail))
  go_big_quiet_step (refine aft_call (fun w => vnear_calls a b c d k w ha hb hc hd hk))
  repeat (go_big_quiet_step (fail))
  go_big_quiet_step (refine aft_call (fun w => rnear_calls a b c d k w ha hb hc hd hk))
  repeat (go_big_quiet_step (fail))
  go_big_quiet_step (refine aft_call (fun w => vmean_calls a b c d w))
  repeat (go_big_quiet_step (fail))
  go_big_quiet_step (refine aft_call (fun w => rmean_calls a b c d w ha hb hc hd))
  repeat (go_big_quiet_step (fail))
  refine wpQuiet_nil ?_
  intro W11 hb_
  clear hqg1_0
  clear hqg1_1
  clear hqg2_0
  clear hqg2_1
  clear hqg3_0
  clear hqg3_1
  clear hqg4_0
  clear hqg4_1
  have n_ := Aside0.mk (blk_below BKg1.out hb_); clear BKg1; have BKg1 := n_; clear n_
  clear hcg1_0 hfg1_0
  clear hcg1_1 hfg1_1
  have n_ := Aside0.mk (blk_below BKg2.out hb_); clear BKg2; have BKg2 := n_; clear n_
  clear hcg2_0 hfg2_0
  clear hcg2_1 hfg2_1
  have n_ := Aside0.mk (blk_below BKg3.out hb_); clear BKg3; have BKg3 := n_; clear n_
  clear hcg3_0 hfg3_0
  clear hcg3_1 hfg3_1
  have n_ := Aside0.mk (blk_below BKg4.out hb_); clear BKg4; have BKg4 := n_; clear n_
  clear hcg4_0 hfg4_0
  clear hcg4_1 hfg4_1
  have n_ := Aside0.mk (below_step HB.out hb_); clear HB; have HB := n_; clear n_
  clear hb_
  have hcg1_0 : W11.cell? ⟨g1, 0, none⟩ = some (.int .i64 a) := (blk_cell BKg1.out 0).trans rfl
  have hfg1_0 := blk_frozen BKg1.out 0
  have hcg1_1 : W11.cell? ⟨g1, 1, none⟩ = some (.int .i64 b) := (blk_cell BKg1.out 1).trans rfl
  have hfg1_1 := blk_frozen BKg1.out 1
  have hcg2_0 : W11.cell? ⟨g2, 0, none⟩ = some (.int .i64 c) := (blk_cell BKg2.out 0).trans rfl
  have hfg2_0 := blk_frozen BKg2.out 0
  have hcg2_1 : W11.cell? ⟨g2, 1, none⟩ = some (.int .i64 d) := (blk_cell BKg2.out 1).trans rfl
  have hfg2_1 := blk_frozen BKg2.out 1
  have hcg3_0 : W11.cell? ⟨g3, 0, none⟩ = some (.int .i64 (clampI a k)) := (blk_cell BKg3.out 0).trans rfl
  have hfg3_0 := blk_frozen BKg3.out 0
  have hcg3_1 : W11.cell? ⟨g3, 1, none⟩ = some (.int .i64 (clampI b k)) := (blk_cell BKg3.out 1).trans rfl
  have hfg3_1 := blk_frozen BKg3.out 1
  have hcg4_0 : W11.cell? ⟨g4, 0, none⟩ = some (.int .i64 (clampI a k)) := (blk_cell BKg4.out 0).trans rfl
  have hfg4_0 := blk_frozen BKg4.out 0
  have hcg4_1 : W11.cell? ⟨g4, 1, none⟩ = some (.int .i64 (clampI b k)) := (blk_cell BKg4.out 1).trans rfl
  have hfg4_1 := blk_frozen BKg4.out 1
  go_wp2
  go_ret
  exact ⟨rfl, (by repeat (first | (with_reducible first | exact HB.out | apply below_alloc | apply pw_below_drewN | apply below_drew1) | exact HB.out))⟩

theorem vecworks_any (a b c d k : Int) (w : World) (ha : I64 a) (hb : I64 b) (hc : I64 c) (hd : I64 d) (hk : I64 k) :
    Calls Try.prog 7 #[.agg #[.int .i64 a, .int .i64 b], .agg #[.int .i64 c, .int .i64 d], .int .i64 k] w fun e w' => e = .returned (.bool true) ∧ Below w.heap.size w w' := by
  by_cases h : k < 0
  · exact vecworks_1 a b c d k w ha hb hc hd hk h
  · exact vecworks_2 a b c d k w ha hb hc hd hk (by omega)
end Go.Proofs.Ytjknihjdhccanaa
