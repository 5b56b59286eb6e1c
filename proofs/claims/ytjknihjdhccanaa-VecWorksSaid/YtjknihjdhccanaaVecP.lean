/- The walk of VecAdds. -/
import Derived.Test.YtjknihjdhccanaaVecO
namespace Go.Proofs.Ytjknihjdhccanaa
open Go.RowKit Go.Proofs.YtjknihjdhccanaaW.PrintWords Go.Proofs.YtjknihjdhccanaaW.PrintLast Go.Proofs.YtjknihjdhccanaaW.PrintMore
set_option linter.unusedVariables false
set_option linter.unusedSimpArgs false

/-- The root that is found, by its sum of squares. -/
noncomputable def rootOf (S : Int) : Int := Classical.epsilon (fun n => LRel 63 S 0 n)
theorem rootOf_eq {S n : Int} (h : LRel 63 S 0 n) : n = rootOf S := root_one (Classical.epsilon_spec (p := fun n => LRel 63 S 0 n) ⟨n, h⟩) h
theorem long_val (a b : Int) (w : World) (ha : I64 a) (hb : I64 b) :
    Calls Try.prog 9 #[.agg #[.int .i64 a, .int .i64 b]] w fun e w' => e = .returned (.int .i64 (rootOf (vecS a b))) ∧ Below w.heap.size w w' :=
  (long_calls a b w ha hb).mono fun _ _ ⟨r, h, g, bl⟩ => ⟨h.trans (ret_int (rootOf_eq g)), bl⟩
/-- There is a root (whatever the walk does): bit by bit. -/
theorem root_there (S : Int) (h : 0 ≤ S) : ∃ n, LRel 63 S 0 n := by
  have key : ∀ m, (∃ n, LRel 63 S m n) → ∃ n, LRel 63 S 0 n := by
    intro m
    induction m with
    | zero => exact id
    | succ k ih =>
      rintro ⟨n, hn⟩
      rcases Int.lt_or_le S ((n + two k) * (n + two k)) with c | c
      · exact ih ⟨n, hn.leave c⟩
      · exact ih ⟨_, hn.take c⟩
  exact key 63 ⟨0, LRel.start 63 h⟩
theorem rootOf_spec (S : Int) (h : 0 ≤ S) : LRel 63 S 0 (rootOf S) := Classical.epsilon_spec (p := fun n => LRel 63 S 0 n) (root_there S h)

def smallB (a b : Int) : Bool := decide (-1152921504606846976 ≤ a) && (decide (a ≤ 1152921504606846976) && (decide (-1152921504606846976 ≤ b) && decide (b ≤ 1152921504606846976)))
set_option maxHeartbeats 1000000 in
set_option maxRecDepth 100000 in
theorem small_calls (a b : Int) (w : World)  :
    Calls Try.prog 17 #[.agg #[.int .i64 a, .int .i64 b]] w
      fun e w' => e = .returned (.bool (smallB a b)) ∧ Below w.heap.size w w' := by
  have HB := Aside0.mk (Below.refl w.heap.size w)
  go_enter Try.func17, Try.ntmps17
  go_wp2_with (first | ((with_reducible refine gate_dst (N := 1) rfl ?_); refine box_event ?hg (N := 1) ?hd (cs := #[.int .i64 a, .int .i64 b]) (t := 23) ?hr ?_; (case hd => rfl); (case hg => rfl); (case hr => first | (go_simp; done) | (go_simp; rfl)); intro g1 hg_ W1 hbox_ hb_; have GEg1 := Aside0.mk ((by rw [hg_]; exact (below_size HB.out)) : w.heap.size ≤ g1); clear hg_; have n_ := Aside0.mk (below_step HB.out hb_); clear HB; have HB := n_; clear n_; have BKg1 := Aside0.mk hbox_; clear hbox_ hb_; have hcg1_0 : W1.cell? ⟨g1, 0, none⟩ = some (.int .i64 a) := (blk_cell BKg1.out 0).trans rfl; have hfg1_0 := blk_frozen BKg1.out 0; have hcg1_1 : W1.cell? ⟨g1, 1, none⟩ = some (.int .i64 b) := (blk_cell BKg1.out 1).trans rfl; have hfg1_1 := blk_frozen BKg1.out 1))
  go_wp2
  all_goals (go_ret; exact ⟨ret_bool (by unfold smallB; first | (simp [*]; done) | (simp; omega)), HB.out⟩)

theorem vecS_nonneg (a b : Int) : 0 ≤ vecS a b := by
  unfold vecS
  have := Int.mul_nonneg (Int.natCast_nonneg a.natAbs) (Int.natCast_nonneg a.natAbs)
  have := Int.mul_nonneg (Int.natCast_nonneg b.natAbs) (Int.natCast_nonneg b.natAbs)
  omega
theorem abs_sq (a : Int) : (a.natAbs : Int) * a.natAbs = a * a := by
  rcases Int.natAbs_eq a with h | h
  · rw [← h]
  · have : (a.natAbs : Int) = -a := by omega
    rw [this, Int.neg_mul_neg]
theorem vecS_eq (a b : Int) : vecS a b = a * a + b * b := by unfold vecS; rw [abs_sq, abs_sq]
theorem sq_nonneg (a : Int) : 0 ≤ a * a := by rw [← abs_sq]; exact Int.mul_nonneg (Int.natCast_nonneg _) (Int.natCast_nonneg _)
theorem cauchy (a b c d : Int) : (a * c + b * d) * (a * c + b * d) ≤ (a * a + b * b) * (c * c + d * d) := by
  have h := sq_nonneg (a * d - b * c)
  have e : (a * a + b * b) * (c * c + d * d) = (a * c + b * d) * (a * c + b * d) + (a * d - b * c) * (a * d - b * c) := by grind
  omega

structure Small (a b : Int) : Prop where
  a0 : -1152921504606846976 ≤ a
  a1 : a ≤ 1152921504606846976
  b0 : -1152921504606846976 ≤ b
  b1 : b ≤ 1152921504606846976
theorem small_of {a b : Int} (h : smallB a b = true) : Small a b := by
  unfold smallB at h
  simp only [Bool.and_eq_true, decide_eq_true_eq] at h
  exact ⟨h.1, h.2.1, h.2.2.1, h.2.2.2⟩
theorem sq_bound {a m : Int} (h0 : -m ≤ a) (h1 : a ≤ m) : a * a ≤ m * m := by
  have : (a.natAbs : Int) ≤ m := by omega
  rw [← abs_sq]
  exact Int.mul_le_mul this this (by omega) (by omega)
/-- The root of a small pair is not stopped. -/
theorem root_small {a b m : Int} (hm : m ≤ 2305843009213693952) (ha0 : -m ≤ a) (ha1 : a ≤ m) (hb0 : -m ≤ b) (hb1 : b ≤ m) :
    0 ≤ rootOf (vecS a b) ∧ rootOf (vecS a b) ≤ 4611686018427387904 ∧ rootOf (vecS a b) * rootOf (vecS a b) ≤ a * a + b * b ∧ a * a + b * b < (rootOf (vecS a b) + 1) * (rootOf (vecS a b) + 1) := by
  have h := rootOf_spec (vecS a b) (vecS_nonneg a b)
  rw [vecS_eq] at *
  have h1 := sq_bound ha0 ha1
  have h2 := sq_bound hb0 hb1
  have h3 : m * m ≤ 2305843009213693952 * 2305843009213693952 := Int.mul_le_mul hm hm (by omega) (by omega)
  generalize rootOf (a * a + b * b) = r at *
  have l := h.low
  have p := h.pos
  have hh := h.high
  have e2 : two 63 = 9223372036854775808 := by decide
  rw [e2, two_zero] at hh
  have t : r ≤ 4611686018427387904 := by
    refine sq_le p (by omega) ?_
    omega
  refine ⟨p, t, l, ?_⟩
  rcases hh with hh | hh
  · omega
  · exact hh
theorem triangle {a b c d S A B : Int} (hS0 : 0 ≤ S) (hA0 : 0 ≤ A) (hB0 : 0 ≤ B) (hS : S * S ≤ (a + c) * (a + c) + (b + d) * (b + d)) (hA : a * a + b * b < (A + 1) * (A + 1)) (hB : c * c + d * d < (B + 1) * (B + 1)) : S ≤ A + B + 1 := by
  have hc := cauchy a b c d
  have e1 := sum_sq a c
  have e2 := sum_sq b d
  have e3 := sum_sq (A + 1) (B + 1)
  have hP := sq_nonneg a; have hP2 := sq_nonneg b; have hQ := sq_nonneg c; have hQ2 := sq_nonneg d
  have hdot : a * c + b * d < (A + 1) * (B + 1) := by
    rcases Int.lt_or_le (a * c + b * d) 0 with n | n
    · have := Int.mul_nonneg (show 0 ≤ A + 1 by omega) (show 0 ≤ B + 1 by omega); omega
    · refine sq_lt n (Int.mul_nonneg (by omega) (by omega)) ?_
      have h1 : (a * a + b * b) * (c * c + d * d) < ((A + 1) * (A + 1)) * ((B + 1) * (B + 1)) := by
        have k1 : (a * a + b * b) * (c * c + d * d) ≤ (a * a + b * b) * ((B + 1) * (B + 1)) := Int.mul_le_mul_of_nonneg_left (by omega) (by omega)
        have hb1 : 0 < (B + 1) * (B + 1) := Int.mul_pos (by omega) (by omega)
        have k2 : (a * a + b * b) * ((B + 1) * (B + 1)) < ((A + 1) * (A + 1)) * ((B + 1) * (B + 1)) := Int.mul_lt_mul_of_pos_right hA hb1
        omega
      have e4 : (A + 1) * (B + 1) * ((A + 1) * (B + 1)) = ((A + 1) * (A + 1)) * ((B + 1) * (B + 1)) := by grind
      omega
  have : S < (A + 1) + (B + 1) := sq_lt hS0 (by omega) (by omega)
  omega

structure AddFacts (a b c d : Int) : Prop where
  s1 : sat (a + c) = a + c
  s2 : sat (b + d) = b + d
  t1 : sat (c + a) = a + c
  t2 : sat (d + b) = b + d
  u1 : sat (a + c - c) = a
  u2 : sat (b + d - d) = b
  le : rootOf (vecS (a + c) (b + d)) ≤ rootOf (vecS a b) + rootOf (vecS c d) + 1
  a0 : 0 ≤ rootOf (vecS a b)
  a1 : rootOf (vecS a b) ≤ 2305843009213693952
  b0 : 0 ≤ rootOf (vecS c d)
  b1 : rootOf (vecS c d) ≤ 2305843009213693952
  neg : rootOf (vecS (sat (c - a)) (sat (d - b))) = rootOf (vecS (sat (a - c)) (sat (b - d)))
theorem add_facts {a b c d : Int} (h : Small a b) (g : Small c d) : AddFacts a b c d := by
  obtain ⟨a0, a1, b0, b1⟩ := h
  obtain ⟨c0, c1, d0, d1⟩ := g
  have rA := root_small (a := a) (b := b) (m := 1152921504606846976) (by omega) (by omega) (by omega) (by omega) (by omega)
  have rB := root_small (a := c) (b := d) (m := 1152921504606846976) (by omega) (by omega) (by omega) (by omega) (by omega)
  have rS := root_small (a := a + c) (b := b + d) (m := 2305843009213693952) (by omega) (by omega) (by omega) (by omega) (by omega)
  have q1 := sq_bound (a := c) (m := 1152921504606846976) (by omega) (by omega)
  have q3 := sq_bound (a := a) (m := 1152921504606846976) (by omega) (by omega)
  have q4 := sq_bound (a := b) (m := 1152921504606846976) (by omega) (by omega)
  have q2 := sq_bound (a := d) (m := 1152921504606846976) (by omega) (by omega)
  refine ⟨sat_self ⟨by omega, by omega⟩, sat_self ⟨by omega, by omega⟩, ?_, ?_, ?_, ?_, ?_, rA.1, ?_, rB.1, ?_, ?_⟩
  · rw [Int.add_comm]; exact sat_self ⟨by omega, by omega⟩
  · rw [Int.add_comm]; exact sat_self ⟨by omega, by omega⟩
  · rw [show a + c - c = a from by omega]; exact sat_self ⟨by omega, by omega⟩
  · rw [show b + d - d = b from by omega]; exact sat_self ⟨by omega, by omega⟩
  · exact triangle rS.1 rA.1 rB.1 rS.2.2.1 rA.2.2.2 rB.2.2.2
  · exact sq_le rA.1 (by omega) (by have := rA.2.2.1; omega)
  · exact sq_le rB.1 (by omega) (by have := rB.2.2.1; omega)
  · rw [sat_self (a := c - a) ⟨by omega, by omega⟩, sat_self (a := d - b) ⟨by omega, by omega⟩, sat_self (a := a - c) ⟨by omega, by omega⟩, sat_self (a := b - d) ⟨by omega, by omega⟩]
    rw [vecS_eq, vecS_eq]
    congr 1
    rw [show c - a = -(a - c) from by omega, show d - b = -(b - d) from by omega, Int.neg_mul_neg, Int.neg_mul_neg]
set_option maxHeartbeats 4000000 in
set_option maxRecDepth 100000 in
theorem vecadds_1 (a b c d : Int) (w : World) (ha : I64 a) (hb : I64 b) (hc : I64 c) (hd : I64 d) (p1 : smallB a b = false) :
    Calls Try.prog 6 #[.agg #[.int .i64 a, .int .i64 b], .agg #[.int .i64 c, .int .i64 d]] w
      fun e w' => e = .returned (.bool true) ∧ Below w.heap.size w w' := by
  have HB := Aside0.mk (Below.refl w.heap.size w)
  go_enter Try.func6, Try.ntmps6
  go_wp2_with (first | ((with_reducible refine gate_dst (N := 2) rfl ?_); refine box_event ?hg (N := 2) ?hd (cs := #[.int .i64 a, .int .i64 b]) (t := 23) ?hr ?_; (case hd => rfl); (case hg => rfl); (case hr => first | (go_simp; done) | (go_simp; rfl)); intro g1 hg_ W1 hbox_ hb_; have GEg1 := Aside0.mk ((by rw [hg_]; exact (below_size HB.out)) : w.heap.size ≤ g1); clear hg_; have n_ := Aside0.mk (below_step HB.out hb_); clear HB; have HB := n_; clear n_; have BKg1 := Aside0.mk hbox_; clear hbox_ hb_; have hcg1_0 : W1.cell? ⟨g1, 0, none⟩ = some (.int .i64 a) := (blk_cell BKg1.out 0).trans rfl; have hfg1_0 := blk_frozen BKg1.out 0; have hcg1_1 : W1.cell? ⟨g1, 1, none⟩ = some (.int .i64 b) := (blk_cell BKg1.out 1).trans rfl; have hfg1_1 := blk_frozen BKg1.out 1) | ((with_reducible refine gate_dst (N := 3) rfl ?_); refine box_event ?hg (N := 3) ?hd (cs := #[.int .i64 c, .int .i64 d]) (t := 23) ?hr ?_; (case hd => rfl); (case hg => rfl); (case hr => first | (go_simp; done) | (go_simp; rfl)); intro g2 hg_ W2 hbox_ hb_; have GEg2 := Aside0.mk ((by rw [hg_]; exact (below_size HB.out)) : w.heap.size ≤ g2); have NBg1_g2 : g1 ≠ g2 := (by rw [hg_]; exact Nat.ne_of_lt (blk_lt BKg1.out)); have NBg2_g1 : g2 ≠ g1 := Ne.symm NBg1_g2; clear hg_; have n_ := Aside0.mk (blk_below BKg1.out hb_); clear BKg1; have BKg1 := n_; clear n_; clear hcg1_0 hfg1_0; clear hcg1_1 hfg1_1; have n_ := Aside0.mk (below_step HB.out hb_); clear HB; have HB := n_; clear n_; have BKg2 := Aside0.mk hbox_; clear hbox_ hb_; have hcg1_0 : W2.cell? ⟨g1, 0, none⟩ = some (.int .i64 a) := (blk_cell BKg1.out 0).trans rfl; have hfg1_0 := blk_frozen BKg1.out 0; have hcg1_1 : W2.cell? ⟨g1, 1, none⟩ = some (.int .i64 b) := (blk_cell BKg1.out 1).trans rfl; have hfg1_1 := blk_frozen BKg1.out 1; have hcg2_0 : W2.cell? ⟨g2, 0, none⟩ = some (.int .i64 c) := (blk_cell BKg2.out 0).trans rfl; have hfg2_0 := blk_frozen BKg2.out 0; have hcg2_1 : W2.cell? ⟨g2, 1, none⟩ = some (.int .i64 d) := (blk_cell BKg2.out 1).trans rfl; have hfg2_1 := blk_frozen BKg2.out 1))
  ((with_reducible refine (awake_calls _).mono ?_); rintro e_ W3 ⟨rfl, hb_⟩)
  have n_ := Aside0.mk (blk_below BKg1.out hb_); clear BKg1; have BKg1 := n_; clear n_
  clear hcg1_0 hfg1_0
  clear hcg1_1 hfg1_1
  have n_ := Aside0.mk (blk_below BKg2.out hb_); clear BKg2; have BKg2 := n_; clear n_
  clear hcg2_0 hfg2_0
  clear hcg2_1 hfg2_1
  have n_ := Aside0.mk (below_step HB.out hb_); clear HB; have HB := n_; clear n_
  clear hb_
  have hcg1_0 : W3.cell? ⟨g1, 0, none⟩ = some (.int .i64 a) := (blk_cell BKg1.out 0).trans rfl
  have hfg1_0 := blk_frozen BKg1.out 0
  have hcg1_1 : W3.cell? ⟨g1, 1, none⟩ = some (.int .i64 b) := (blk_cell BKg1.out 1).trans rfl
  have hfg1_1 := blk_frozen BKg1.out 1
  have hcg2_0 : W3.cell? ⟨g2, 0, none⟩ = some (.int .i64 c) := (blk_cell BKg2.out 0).trans rfl
  have hfg2_0 := blk_frozen BKg2.out 0
  have hcg2_1 : W3.cell? ⟨g2, 1, none⟩ = some (.int .i64 d) := (blk_cell BKg2.out 1).trans rfl
  have hfg2_1 := blk_frozen BKg2.out 1
  go_wp2_with fail
  ((with_reducible refine (small_calls _ _ _).mono ?_); rintro e_ W4 ⟨rfl, hb_⟩)
  have n_ := Aside0.mk (blk_below BKg1.out hb_); clear BKg1; have BKg1 := n_; clear n_
  clear hcg1_0 hfg1_0
  clear hcg1_1 hfg1_1
  have n_ := Aside0.mk (blk_below BKg2.out hb_); clear BKg2; have BKg2 := n_; clear n_
  clear hcg2_0 hfg2_0
  clear hcg2_1 hfg2_1
  have n_ := Aside0.mk (below_step HB.out hb_); clear HB; have HB := n_; clear n_
  clear hb_
  have hcg1_0 : W4.cell? ⟨g1, 0, none⟩ = some (.int .i64 a) := (blk_cell BKg1.out 0).trans rfl
  have hfg1_0 := blk_frozen BKg1.out 0
  have hcg1_1 : W4.cell? ⟨g1, 1, none⟩ = some (.int .i64 b) := (blk_cell BKg1.out 1).trans rfl
  have hfg1_1 := blk_frozen BKg1.out 1
  have hcg2_0 : W4.cell? ⟨g2, 0, none⟩ = some (.int .i64 c) := (blk_cell BKg2.out 0).trans rfl
  have hfg2_0 := blk_frozen BKg2.out 0
  have hcg2_1 : W4.cell? ⟨g2, 1, none⟩ = some (.int .i64 d) := (blk_cell BKg2.out 1).trans rfl
  have hfg2_1 := blk_frozen BKg2.out 1
  go_wp2_with fail
  ((with_reducible refine (small_calls _ _ _).mono ?_); rintro e_ W5 ⟨rfl, hb_⟩)
  have n_ := Aside0.mk (blk_below BKg1.out hb_); clear BKg1; have BKg1 := n_; clear n_
  clear hcg1_0 hfg1_0
  clear hcg1_1 hfg1_1
  have n_ := Aside0.mk (blk_below BKg2.out hb_); clear BKg2; have BKg2 := n_; clear n_
  clear hcg2_0 hfg2_0
  clear hcg2_1 hfg2_1
  have n_ := Aside0.mk (below_step HB.out hb_); clear HB; have HB := n_; clear n_
  clear hb_
  have hcg1_0 : W5.cell? ⟨g1, 0, none⟩ = some (.int .i64 a) := (blk_cell BKg1.out 0).trans rfl
  have hfg1_0 := blk_frozen BKg1.out 0
  have hcg1_1 : W5.cell? ⟨g1, 1, none⟩ = some (.int .i64 b) := (blk_cell BKg1.out 1).trans rfl
  have hfg1_1 := blk_frozen BKg1.out 1
  have hcg2_0 : W5.cell? ⟨g2, 0, none⟩ = some (.int .i64 c) := (blk_cell BKg2.out 0).trans rfl
  have hfg2_0 := blk_frozen BKg2.out 0
  have hcg2_1 : W5.cell? ⟨g2, 1, none⟩ = some (.int .i64 d) := (blk_cell BKg2.out 1).trans rfl
  have hfg2_1 := blk_frozen BKg2.out 1
  go_wp2
  go_ret
  exact ⟨rfl, (by repeat (first | (with_reducible first | exact HB.out | apply below_alloc | apply pw_below_drewN | apply below_drew1) | exact HB.out))⟩
set_option maxHeartbeats 4000000 in
set_option maxRecDepth 100000 in
theorem vecadds_2 (a b c d : Int) (w : World) (ha : I64 a) (hb : I64 b) (hc : I64 c) (hd : I64 d) (p1 : smallB a b = true) (p2 : smallB c d = false) :
    Calls Try.prog 6 #[.agg #[.int .i64 a, .int .i64 b], .agg #[.int .i64 c, .int .i64 d]] w
      fun e w' => e = .returned (.bool true) ∧ Below w.heap.size w w' := by
  have HB := Aside0.mk (Below.refl w.heap.size w)
  go_enter Try.func6, Try.ntmps6
  go_wp2_with (first | ((with_reducible refine gate_dst (N := 2) rfl ?_); refine box_event ?hg (N := 2) ?hd (cs := #[.int .i64 a, .int .i64 b]) (t := 23) ?hr ?_; (case hd => rfl); (case hg => rfl); (case hr => first | (go_simp; done) | (go_simp; rfl)); intro g1 hg_ W1 hbox_ hb_; have GEg1 := Aside0.mk ((by rw [hg_]; exact (below_size HB.out)) : w.heap.size ≤ g1); clear hg_; have n_ := Aside0.mk (below_step HB.out hb_); clear HB; have HB := n_; clear n_; have BKg1 := Aside0.mk hbox_; clear hbox_ hb_; have hcg1_0 : W1.cell? ⟨g1, 0, none⟩ = some (.int .i64 a) := (blk_cell BKg1.out 0).trans rfl; have hfg1_0 := blk_frozen BKg1.out 0; have hcg1_1 : W1.cell? ⟨g1, 1, none⟩ = some (.int .i64 b) := (blk_cell BKg1.out 1).trans rfl; have hfg1_1 := blk_frozen BKg1.out 1) | ((with_reducible refine gate_dst (N := 3) rfl ?_); refine box_event ?hg (N := 3) ?hd (cs := #[.int .i64 c, .int .i64 d]) (t := 23) ?hr ?_; (case hd => rfl); (case hg => rfl); (case hr => first | (go_simp; done) | (go_simp; rfl)); intro g2 hg_ W2 hbox_ hb_; have GEg2 := Aside0.mk ((by rw [hg_]; exact (below_size HB.out)) : w.heap.size ≤ g2); have NBg1_g2 : g1 ≠ g2 := (by rw [hg_]; exact Nat.ne_of_lt (blk_lt BKg1.out)); have NBg2_g1 : g2 ≠ g1 := Ne.symm NBg1_g2; clear hg_; have n_ := Aside0.mk (blk_below BKg1.out hb_); clear BKg1; have BKg1 := n_; clear n_; clear hcg1_0 hfg1_0; clear hcg1_1 hfg1_1; have n_ := Aside0.mk (below_step HB.out hb_); clear HB; have HB := n_; clear n_; have BKg2 := Aside0.mk hbox_; clear hbox_ hb_; have hcg1_0 : W2.cell? ⟨g1, 0, none⟩ = some (.int .i64 a) := (blk_cell BKg1.out 0).trans rfl; have hfg1_0 := blk_frozen BKg1.out 0; have hcg1_1 : W2.cell? ⟨g1, 1, none⟩ = some (.int .i64 b) := (blk_cell BKg1.out 1).trans rfl; have hfg1_1 := blk_frozen BKg1.out 1; have hcg2_0 : W2.cell? ⟨g2, 0, none⟩ = some (.int .i64 c) := (blk_cell BKg2.out 0).trans rfl; have hfg2_0 := blk_frozen BKg2.out 0; have hcg2_1 : W2.cell? ⟨g2, 1, none⟩ = some (.int .i64 d) := (blk_cell BKg2.out 1).trans rfl; have hfg2_1 := blk_frozen BKg2.out 1))
  ((with_reducible refine (awake_calls _).mono ?_); rintro e_ W3 ⟨rfl, hb_⟩)
  have n_ := Aside0.mk (blk_below BKg1.out hb_); clear BKg1; have BKg1 := n_; clear n_
  clear hcg1_0 hfg1_0
  clear hcg1_1 hfg1_1
  have n_ := Aside0.mk (blk_below BKg2.out hb_); clear BKg2; have BKg2 := n_; clear n_
  clear hcg2_0 hfg2_0
  clear hcg2_1 hfg2_1
  have n_ := Aside0.mk (below_step HB.out hb_); clear HB; have HB := n_; clear n_
  clear hb_
  have hcg1_0 : W3.cell? ⟨g1, 0, none⟩ = some (.int .i64 a) := (blk_cell BKg1.out 0).trans rfl
  have hfg1_0 := blk_frozen BKg1.out 0
  have hcg1_1 : W3.cell? ⟨g1, 1, none⟩ = some (.int .i64 b) := (blk_cell BKg1.out 1).trans rfl
  have hfg1_1 := blk_frozen BKg1.out 1
  have hcg2_0 : W3.cell? ⟨g2, 0, none⟩ = some (.int .i64 c) := (blk_cell BKg2.out 0).trans rfl
  have hfg2_0 := blk_frozen BKg2.out 0
  have hcg2_1 : W3.cell? ⟨g2, 1, none⟩ = some (.int .i64 d) := (blk_cell BKg2.out 1).trans rfl
  have hfg2_1 := blk_frozen BKg2.out 1
  go_wp2_with fail
  ((with_reducible refine (small_calls _ _ _).mono ?_); rintro e_ W4 ⟨rfl, hb_⟩)
  have n_ := Aside0.mk (blk_below BKg1.out hb_); clear BKg1; have BKg1 := n_; clear n_
  clear hcg1_0 hfg1_0
  clear hcg1_1 hfg1_1
  have n_ := Aside0.mk (blk_below BKg2.out hb_); clear BKg2; have BKg2 := n_; clear n_
  clear hcg2_0 hfg2_0
  clear hcg2_1 hfg2_1
  have n_ := Aside0.mk (below_step HB.out hb_); clear HB; have HB := n_; clear n_
  clear hb_
  have hcg1_0 : W4.cell? ⟨g1, 0, none⟩ = some (.int .i64 a) := (blk_cell BKg1.out 0).trans rfl
  have hfg1_0 := blk_frozen BKg1.out 0
  have hcg1_1 : W4.cell? ⟨g1, 1, none⟩ = some (.int .i64 b) := (blk_cell BKg1.out 1).trans rfl
  have hfg1_1 := blk_frozen BKg1.out 1
  have hcg2_0 : W4.cell? ⟨g2, 0, none⟩ = some (.int .i64 c) := (blk_cell BKg2.out 0).trans rfl
  have hfg2_0 := blk_frozen BKg2.out 0
  have hcg2_1 : W4.cell? ⟨g2, 1, none⟩ = some (.int .i64 d) := (blk_cell BKg2.out 1).trans rfl
  have hfg2_1 := blk_frozen BKg2.out 1
  go_wp2_with fail
  ((with_reducible refine (small_calls _ _ _).mono ?_); rintro e_ W5 ⟨rfl, hb_⟩)
  have n_ := Aside0.mk (blk_below BKg1.out hb_); clear BKg1; have BKg1 := n_; clear n_
  clear hcg1_0 hfg1_0
  clear hcg1_1 hfg1_1
  have n_ := Aside0.mk (blk_below BKg2.out hb_); clear BKg2; have BKg2 := n_; clear n_
  clear hcg2_0 hfg2_0
  clear hcg2_1 hfg2_1
  have n_ := Aside0.mk (below_step HB.out hb_); clear HB; have HB := n_; clear n_
  clear hb_
  have hcg1_0 : W5.cell? ⟨g1, 0, none⟩ = some (.int .i64 a) := (blk_cell BKg1.out 0).trans rfl
  have hfg1_0 := blk_frozen BKg1.out 0
  have hcg1_1 : W5.cell? ⟨g1, 1, none⟩ = some (.int .i64 b) := (blk_cell BKg1.out 1).trans rfl
  have hfg1_1 := blk_frozen BKg1.out 1
  have hcg2_0 : W5.cell? ⟨g2, 0, none⟩ = some (.int .i64 c) := (blk_cell BKg2.out 0).trans rfl
  have hfg2_0 := blk_frozen BKg2.out 0
  have hcg2_1 : W5.cell? ⟨g2, 1, none⟩ = some (.int .i64 d) := (blk_cell BKg2.out 1).trans rfl
  have hfg2_1 := blk_frozen BKg2.out 1
  go_wp2
  go_ret
  exact ⟨rfl, (by repeat (first | (with_reducible first | exact HB.out | apply below_alloc | apply pw_below_drewN | apply below_drew1) | exact HB.out))⟩
set_option maxHeartbeats 4000000 in
set_option maxRecDepth 100000 in
theorem vecadds_3 (a b c d : Int) (w : World) (ha : I64 a) (hb : I64 b) (hc : I64 c) (hd : I64 d) (p1 : smallB a b = true) (p2 : smallB c d = true) :
    Calls Try.prog 6 #[.agg #[.int .i64 a, .int .i64 b], .agg #[.int .i64 c, .int .i64 d]] w
      fun e w' => e = .returned (.bool true) ∧ Below w.heap.size w w' := by
  have HB := Aside0.mk (Below.refl w.heap.size w)
  have F := add_facts (small_of p1) (small_of p2)
  have G := Lib.hid (small_of p1); have G2 := Lib.hid (small_of p2)
  go_enter Try.func6, Try.ntmps6
  go_wp2_with (first | ((with_reducible refine gate_dst (N := 2) rfl ?_); refine box_event ?hg (N := 2) ?hd (cs := #[.int .i64 a, .int .i64 b]) (t := 23) ?hr ?_; (case hd => rfl); (case hg => rfl); (case hr => first | (go_simp; done) | (go_simp; rfl)); intro g1 hg_ W1 hbox_ hb_; have GEg1 := Aside0.mk ((by rw [hg_]; exact (below_size HB.out)) : w.heap.size ≤ g1); clear hg_; have n_ := Aside0.mk (below_step HB.out hb_); clear HB; have HB := n_; clear n_; have BKg1 := Aside0.mk hbox_; clear hbox_ hb_; have hcg1_0 : W1.cell? ⟨g1, 0, none⟩ = some (.int .i64 a) := (blk_cell BKg1.out 0).trans rfl; have hfg1_0 := blk_frozen BKg1.out 0; have hcg1_1 : W1.cell? ⟨g1, 1, none⟩ = some (.int .i64 b) := (blk_cell BKg1.out 1).trans rfl; have hfg1_1 := blk_frozen BKg1.out 1) | ((with_reducible refine gate_dst (N := 3) rfl ?_); refine box_event ?hg (N := 3) ?hd (cs := #[.int .i64 c, .int .i64 d]) (t := 23) ?hr ?_; (case hd => rfl); (case hg => rfl); (case hr => first | (go_simp; done) | (go_simp; rfl)); intro g2 hg_ W2 hbox_ hb_; have GEg2 := Aside0.mk ((by rw [hg_]; exact (below_size HB.out)) : w.heap.size ≤ g2); have NBg1_g2 : g1 ≠ g2 := (by rw [hg_]; exact Nat.ne_of_lt (blk_lt BKg1.out)); have NBg2_g1 : g2 ≠ g1 := Ne.symm NBg1_g2; clear hg_; have n_ := Aside0.mk (blk_below BKg1.out hb_); clear BKg1; have BKg1 := n_; clear n_; clear hcg1_0 hfg1_0; clear hcg1_1 hfg1_1; have n_ := Aside0.mk (below_step HB.out hb_); clear HB; have HB := n_; clear n_; have BKg2 := Aside0.mk hbox_; clear hbox_ hb_; have hcg1_0 : W2.cell? ⟨g1, 0, none⟩ = some (.int .i64 a) := (blk_cell BKg1.out 0).trans rfl; have hfg1_0 := blk_frozen BKg1.out 0; have hcg1_1 : W2.cell? ⟨g1, 1, none⟩ = some (.int .i64 b) := (blk_cell BKg1.out 1).trans rfl; have hfg1_1 := blk_frozen BKg1.out 1; have hcg2_0 : W2.cell? ⟨g2, 0, none⟩ = some (.int .i64 c) := (blk_cell BKg2.out 0).trans rfl; have hfg2_0 := blk_frozen BKg2.out 0; have hcg2_1 : W2.cell? ⟨g2, 1, none⟩ = some (.int .i64 d) := (blk_cell BKg2.out 1).trans rfl; have hfg2_1 := blk_frozen BKg2.out 1))
  ((with_reducible refine (awake_calls _).mono ?_); rintro e_ W3 ⟨rfl, hb_⟩)
  have n_ := Aside0.mk (blk_below BKg1.out hb_); clear BKg1; have BKg1 := n_; clear n_
  clear hcg1_0 hfg1_0
  clear hcg1_1 hfg1_1
  have n_ := Aside0.mk (blk_below BKg2.out hb_); clear BKg2; have BKg2 := n_; clear n_
  clear hcg2_0 hfg2_0
  clear hcg2_1 hfg2_1
  have n_ := Aside0.mk (below_step HB.out hb_); clear HB; have HB := n_; clear n_
  clear hb_
  have hcg1_0 : W3.cell? ⟨g1, 0, none⟩ = some (.int .i64 a) := (blk_cell BKg1.out 0).trans rfl
  have hfg1_0 := blk_frozen BKg1.out 0
  have hcg1_1 : W3.cell? ⟨g1, 1, none⟩ = some (.int .i64 b) := (blk_cell BKg1.out 1).trans rfl
  have hfg1_1 := blk_frozen BKg1.out 1
  have hcg2_0 : W3.cell? ⟨g2, 0, none⟩ = some (.int .i64 c) := (blk_cell BKg2.out 0).trans rfl
  have hfg2_0 := blk_frozen BKg2.out 0
  have hcg2_1 : W3.cell? ⟨g2, 1, none⟩ = some (.int .i64 d) := (blk_cell BKg2.out 1).trans rfl
  have hfg2_1 := blk_frozen BKg2.out 1
  go_wp2_with fail
  ((with_reducible refine (small_calls _ _ _).mono ?_); rintro e_ W4 ⟨rfl, hb_⟩)
  have n_ := Aside0.mk (blk_below BKg1.out hb_); clear BKg1; have BKg1 := n_; clear n_
  clear hcg1_0 hfg1_0
  clear hcg1_1 hfg1_1
  have n_ := Aside0.mk (blk_below BKg2.out hb_); clear BKg2; have BKg2 := n_; clear n_
  clear hcg2_0 hfg2_0
  clear hcg2_1 hfg2_1
  have n_ := Aside0.mk (below_step HB.out hb_); clear HB; have HB := n_; clear n_
  clear hb_
  have hcg1_0 : W4.cell? ⟨g1, 0, none⟩ = some (.int .i64 a) := (blk_cell BKg1.out 0).trans rfl
  have hfg1_0 := blk_frozen BKg1.out 0
  have hcg1_1 : W4.cell? ⟨g1, 1, none⟩ = some (.int .i64 b) := (blk_cell BKg1.out 1).trans rfl
  have hfg1_1 := blk_frozen BKg1.out 1
  have hcg2_0 : W4.cell? ⟨g2, 0, none⟩ = some (.int .i64 c) := (blk_cell BKg2.out 0).trans rfl
  have hfg2_0 := blk_frozen BKg2.out 0
  have hcg2_1 : W4.cell? ⟨g2, 1, none⟩ = some (.int .i64 d) := (blk_cell BKg2.out 1).trans rfl
  have hfg2_1 := blk_frozen BKg2.out 1
  go_wp2_with fail
  ((with_reducible refine (small_calls _ _ _).mono ?_); rintro e_ W5 ⟨rfl, hb_⟩)
  have n_ := Aside0.mk (blk_below BKg1.out hb_); clear BKg1; have BKg1 := n_; clear n_
  clear hcg1_0 hfg1_0
  clear hcg1_1 hfg1_1
  have n_ := Aside0.mk (blk_below BKg2.out hb_); clear BKg2; have BKg2 := n_; clear n_
  clear hcg2_0 hfg2_0
  clear hcg2_1 hfg2_1
  have n_ := Aside0.mk (below_step HB.out hb_); clear HB; have HB := n_; clear n_
  clear hb_
  have hcg1_0 : W5.cell? ⟨g1, 0, none⟩ = some (.int .i64 a) := (blk_cell BKg1.out 0).trans rfl
  have hfg1_0 := blk_frozen BKg1.out 0
  have hcg1_1 : W5.cell? ⟨g1, 1, none⟩ = some (.int .i64 b) := (blk_cell BKg1.out 1).trans rfl
  have hfg1_1 := blk_frozen BKg1.out 1
  have hcg2_0 : W5.cell? ⟨g2, 0, none⟩ = some (.int .i64 c) := (blk_cell BKg2.out 0).trans rfl
  have hfg2_0 := blk_frozen BKg2.out 0
  have hcg2_1 : W5.cell? ⟨g2, 1, none⟩ = some (.int .i64 d) := (blk_cell BKg2.out 1).trans rfl
  have hfg2_1 := blk_frozen BKg2.out 1
  go_wp2_with fail
  ((with_reducible refine (vadd_calls _ _ _ _ _ ha hb hc hd).mono ?_); rintro e_ W6 ⟨rfl, hb_⟩)
  have n_ := Aside0.mk (blk_below BKg1.out hb_); clear BKg1; have BKg1 := n_; clear n_
  clear hcg1_0 hfg1_0
  clear hcg1_1 hfg1_1
  have n_ := Aside0.mk (blk_below BKg2.out hb_); clear BKg2; have BKg2 := n_; clear n_
  clear hcg2_0 hfg2_0
  clear hcg2_1 hfg2_1
  have n_ := Aside0.mk (below_step HB.out hb_); clear HB; have HB := n_; clear n_
  clear hb_
  have hcg1_0 : W6.cell? ⟨g1, 0, none⟩ = some (.int .i64 a) := (blk_cell BKg1.out 0).trans rfl
  have hfg1_0 := blk_frozen BKg1.out 0
  have hcg1_1 : W6.cell? ⟨g1, 1, none⟩ = some (.int .i64 b) := (blk_cell BKg1.out 1).trans rfl
  have hfg1_1 := blk_frozen BKg1.out 1
  have hcg2_0 : W6.cell? ⟨g2, 0, none⟩ = some (.int .i64 c) := (blk_cell BKg2.out 0).trans rfl
  have hfg2_0 := blk_frozen BKg2.out 0
  have hcg2_1 : W6.cell? ⟨g2, 1, none⟩ = some (.int .i64 d) := (blk_cell BKg2.out 1).trans rfl
  have hfg2_1 := blk_frozen BKg2.out 1
  rw [F.s1, F.s2]
  go_wp2_with (first | ((with_reducible refine gate_dst (N := 8) rfl ?_); refine box_event ?hg (N := 8) ?hd (cs := #[.int .i64 0, .int .i64 0]) (t := 23) ?hr ?_; (case hd => rfl); (case hg => rfl); (case hr => first | (go_simp; done) | (go_simp; rfl)); intro g3 hg_ W7 hbox_ hb_; have GEg3 := Aside0.mk ((by rw [hg_]; exact (below_size HB.out)) : w.heap.size ≤ g3); have NBg1_g3 : g1 ≠ g3 := (by rw [hg_]; exact Nat.ne_of_lt (blk_lt BKg1.out)); have NBg3_g1 : g3 ≠ g1 := Ne.symm NBg1_g3; have NBg2_g3 : g2 ≠ g3 := (by rw [hg_]; exact Nat.ne_of_lt (blk_lt BKg2.out)); have NBg3_g2 : g3 ≠ g2 := Ne.symm NBg2_g3; clear hg_; have n_ := Aside0.mk (blk_below BKg1.out hb_); clear BKg1; have BKg1 := n_; clear n_; clear hcg1_0 hfg1_0; clear hcg1_1 hfg1_1; have n_ := Aside0.mk (blk_below BKg2.out hb_); clear BKg2; have BKg2 := n_; clear n_; clear hcg2_0 hfg2_0; clear hcg2_1 hfg2_1; have n_ := Aside0.mk (below_step HB.out hb_); clear HB; have HB := n_; clear n_; have BKg3 := Aside0.mk hbox_; clear hbox_ hb_; have hcg1_0 : W7.cell? ⟨g1, 0, none⟩ = some (.int .i64 a) := (blk_cell BKg1.out 0).trans rfl; have hfg1_0 := blk_frozen BKg1.out 0; have hcg1_1 : W7.cell? ⟨g1, 1, none⟩ = some (.int .i64 b) := (blk_cell BKg1.out 1).trans rfl; have hfg1_1 := blk_frozen BKg1.out 1; have hcg2_0 : W7.cell? ⟨g2, 0, none⟩ = some (.int .i64 c) := (blk_cell BKg2.out 0).trans rfl; have hfg2_0 := blk_frozen BKg2.out 0; have hcg2_1 : W7.cell? ⟨g2, 1, none⟩ = some (.int .i64 d) := (blk_cell BKg2.out 1).trans rfl; have hfg2_1 := blk_frozen BKg2.out 1; have hcg3_0 : W7.cell? ⟨g3, 0, none⟩ = some (.int .i64 0) := (blk_cell BKg3.out 0).trans rfl; have hfg3_0 := blk_frozen BKg3.out 0; have hcg3_1 : W7.cell? ⟨g3, 1, none⟩ = some (.int .i64 0) := (blk_cell BKg3.out 1).trans rfl; have hfg3_1 := blk_frozen BKg3.out 1))
  have n_ : Aside0 (((W7.setCell ⟨g3, 0, none⟩ (.int .i64 (a + c))).setCell ⟨g3, 1, none⟩ (.int .i64 (b + d))).heap[g3]? = some (.cells #[.int .i64 (a + c), .int .i64 (b + d)] 23 (0, 0))) := ⟨by refine blk_put (cs := #[.int .i64 (a + c), .int .i64 0]) ?_ 1 _ rfl; refine blk_put (cs := #[.int .i64 0, .int .i64 0]) ?_ 0 _ rfl; exact BKg3.out⟩
  have m_ : Aside0 (((W7.setCell ⟨g3, 0, none⟩ (.int .i64 (a + c))).setCell ⟨g3, 1, none⟩ (.int .i64 (b + d))).heap[g1]? = some (.cells #[.int .i64 a, .int .i64 b] 23 (0, 0))) := ⟨(blk_far (blk_far BKg1.out NBg1_g3 _) NBg1_g3 _)⟩
  clear BKg1; have BKg1 := m_; clear m_
  have m_ : Aside0 (((W7.setCell ⟨g3, 0, none⟩ (.int .i64 (a + c))).setCell ⟨g3, 1, none⟩ (.int .i64 (b + d))).heap[g2]? = some (.cells #[.int .i64 c, .int .i64 d] 23 (0, 0))) := ⟨(blk_far (blk_far BKg2.out NBg2_g3 _) NBg2_g3 _)⟩
  clear BKg2; have BKg2 := m_; clear m_
  have b_ : Aside0 (Below w.heap.size w ((W7.setCell ⟨g3, 0, none⟩ (.int .i64 (a + c))).setCell ⟨g3, 1, none⟩ (.int .i64 (b + d)))) := ⟨(below_set (below_set HB.out GEg3.out) GEg3.out)⟩
  clear BKg3 HB; have BKg3 := n_; have HB := b_; clear n_ b_
  clear hcg1_0 hfg1_0
  clear hcg1_1 hfg1_1
  clear hcg2_0 hfg2_0
  clear hcg2_1 hfg2_1
  clear hcg3_0 hfg3_0
  clear hcg3_1 hfg3_1
  generalize ((W7.setCell ⟨g3, 0, none⟩ (.int .i64 (a + c))).setCell ⟨g3, 1, none⟩ (.int .i64 (b + d))) = W8 at *
  have hcg1_0 : W8.cell? ⟨g1, 0, none⟩ = some (.int .i64 a) := (blk_cell BKg1.out 0).trans rfl
  have hfg1_0 := blk_frozen BKg1.out 0
  have hcg1_1 : W8.cell? ⟨g1, 1, none⟩ = some (.int .i64 b) := (blk_cell BKg1.out 1).trans rfl
  have hfg1_1 := blk_frozen BKg1.out 1
  have hcg2_0 : W8.cell? ⟨g2, 0, none⟩ = some (.int .i64 c) := (blk_cell BKg2.out 0).trans rfl
  have hfg2_0 := blk_frozen BKg2.out 0
  have hcg2_1 : W8.cell? ⟨g2, 1, none⟩ = some (.int .i64 d) := (blk_cell BKg2.out 1).trans rfl
  have hfg2_1 := blk_frozen BKg2.out 1
  have hcg3_0 : W8.cell? ⟨g3, 0, none⟩ = some (.int .i64 (a + c)) := (blk_cell BKg3.out 0).trans rfl
  have hfg3_0 := blk_frozen BKg3.out 0
  have hcg3_1 : W8.cell? ⟨g3, 1, none⟩ = some (.int .i64 (b + d)) := (blk_cell BKg3.out 1).trans rfl
  have hfg3_1 := blk_frozen BKg3.out 1
  have f1 := F.le; have f2 := F.a0; have f3 := F.a1; have f4 := F.b0; have f5 := F.b1
  have hac : I64 (a + c) := by rw [← F.s1]; exact sat_I64 _
  have hbd : I64 (b + d) := by rw [← F.s2]; exact sat_I64 _
  have hqg1_0 : ∀ u : Aft W8, u.w.cell? ⟨g1, 0, none⟩ = some (.int .i64 a) := fun u => (blk_cell (blk_below BKg1.out u.below) 0).trans rfl
  have hqg1_1 : ∀ u : Aft W8, u.w.cell? ⟨g1, 1, none⟩ = some (.int .i64 b) := fun u => (blk_cell (blk_below BKg1.out u.below) 1).trans rfl
  have hqg2_0 : ∀ u : Aft W8, u.w.cell? ⟨g2, 0, none⟩ = some (.int .i64 c) := fun u => (blk_cell (blk_below BKg2.out u.below) 0).trans rfl
  have hqg2_1 : ∀ u : Aft W8, u.w.cell? ⟨g2, 1, none⟩ = some (.int .i64 d) := fun u => (blk_cell (blk_below BKg2.out u.below) 1).trans rfl
  have hqg3_0 : ∀ u : Aft W8, u.w.cell? ⟨g3, 0, none⟩ = some (.int .i64 (a + c)) := fun u => (blk_cell (blk_below BKg3.out u.below) 0).trans rfl
  have hqg3_1 : ∀ u : Aft W8, u.w.cell? ⟨g3, 1, none⟩ = some (.int .i64 (b + d)) := fun u => (blk_cell (blk_below BKg3.out u.below) 1).trans rfl
  refine wp_region_aft (by kernel_rfl) (by kernel_rfl) ?_
  repeat (go_big_quiet_step (fail))
  go_big_quiet_step (refine aft_call (fun w => (vadd_calls c d a b w hc hd ha hb).mono fun _ _ h => ⟨h.1.trans (ret_pair F.t1 F.t2), h.2⟩))
  repeat (go_big_quiet_step (fail))
  go_big_quiet_step (refine aft_call (fun w => (vsub_calls (a + c) (b + d) c d w hac hbd hc hd).mono fun _ _ h => ⟨h.1.trans (ret_pair F.u1 F.u2), h.2⟩))
  repeat (go_big_quiet_step (fail))
  go_big_quiet_step (refine aft_call (fun w => long_val (a + c) (b + d) w hac hbd))
  repeat (go_big_quiet_step (fail))
  go_big_quiet_step (refine aft_call (fun w => long_val a b w ha hb))
  repeat (go_big_quiet_step (fail))
  go_big_quiet_step (refine aft_call (fun w => long_val c d w hc hd))
  repeat (go_big_quiet_step (fail))
  go_big_quiet_step (refine aft_call (fun w => vsub_calls a b c d w ha hb hc hd))
  repeat (go_big_quiet_step (fail))
  go_big_quiet_step (refine aft_call (fun w => long_val _ _ w (sat_I64 _) (sat_I64 _)))
  repeat (go_big_quiet_step (fail))
  go_big_quiet_step (refine aft_call (fun w => vsub_calls c d a b w hc hd ha hb))
  repeat (go_big_quiet_step (fail))
  go_big_quiet_step (refine aft_call (fun w => (long_val _ _ w (sat_I64 _) (sat_I64 _)).mono fun _ _ h => ⟨h.1.trans (ret_int F.neg), h.2⟩))
  repeat (go_big_quiet_step (fail))
  refine wpQuiet_nil ?_
  intro W9 hb_
  clear hqg1_0
  clear hqg1_1
  clear hqg2_0
  clear hqg2_1
  clear hqg3_0
  clear hqg3_1
  have n_ := Aside0.mk (blk_below BKg1.out hb_); clear BKg1; have BKg1 := n_; clear n_
  clear hcg1_0 hfg1_0
  clear hcg1_1 hfg1_1
  have n_ := Aside0.mk (blk_below BKg2.out hb_); clear BKg2; have BKg2 := n_; clear n_
  clear hcg2_0 hfg2_0
  clear hcg2_1 hfg2_1
  have n_ := Aside0.mk (blk_below BKg3.out hb_); clear BKg3; have BKg3 := n_; clear n_
  clear hcg3_0 hfg3_0
  clear hcg3_1 hfg3_1
  have n_ := Aside0.mk (below_step HB.out hb_); clear HB; have HB := n_; clear n_
  clear hb_
  have hcg1_0 : W9.cell? ⟨g1, 0, none⟩ = some (.int .i64 a) := (blk_cell BKg1.out 0).trans rfl
  have hfg1_0 := blk_frozen BKg1.out 0
  have hcg1_1 : W9.cell? ⟨g1, 1, none⟩ = some (.int .i64 b) := (blk_cell BKg1.out 1).trans rfl
  have hfg1_1 := blk_frozen BKg1.out 1
  have hcg2_0 : W9.cell? ⟨g2, 0, none⟩ = some (.int .i64 c) := (blk_cell BKg2.out 0).trans rfl
  have hfg2_0 := blk_frozen BKg2.out 0
  have hcg2_1 : W9.cell? ⟨g2, 1, none⟩ = some (.int .i64 d) := (blk_cell BKg2.out 1).trans rfl
  have hfg2_1 := blk_frozen BKg2.out 1
  have hcg3_0 : W9.cell? ⟨g3, 0, none⟩ = some (.int .i64 (a + c)) := (blk_cell BKg3.out 0).trans rfl
  have hfg3_0 := blk_frozen BKg3.out 0
  have hcg3_1 : W9.cell? ⟨g3, 1, none⟩ = some (.int .i64 (b + d)) := (blk_cell BKg3.out 1).trans rfl
  have hfg3_1 := blk_frozen BKg3.out 1
  go_wp2
  go_ret
  exact ⟨rfl, (by repeat (first | (with_reducible first | exact HB.out | apply below_alloc | apply pw_below_drewN | apply below_drew1) | exact HB.out))⟩

theorem vecadds_any (a b c d : Int) (w : World) (ha : I64 a) (hb : I64 b) (hc : I64 c) (hd : I64 d) :
    Calls Try.prog 6 #[.agg #[.int .i64 a, .int .i64 b], .agg #[.int .i64 c, .int .i64 d]] w fun e w' => e = .returned (.bool true) ∧ Below w.heap.size w w' := by
  cases p1 : smallB a b with
  | false => exact vecadds_1 a b c d w ha hb hc hd p1
  | true =>
    cases p2 : smallB c d with
    | false => exact vecadds_2 a b c d w ha hb hc hd p1 p2
    | true => exact vecadds_3 a b c d w ha hb hc hd p1 p2
end Go.Proofs.Ytjknihjdhccanaa
