/- The reference's products and roots, over numbers. -/
import Derived.Test.YtjknihjdhccanaaVecT
namespace Go.Proofs.Ytjknihjdhccanaa
open Go.RowKit Go.Proofs.YtjknihjdhccanaaW.PrintWords Go.Proofs.YtjknihjdhccanaaW.PrintLast Go.Proofs.YtjknihjdhccanaaW.PrintMore
set_option linter.unusedVariables false
set_option linter.unusedSimpArgs false

theorem ret_big {m : Bool} {D E : Nat → Int} (h : bigA m D = bigA m E) : Ending.returned (.agg (bigA m D)) = .returned (.agg (bigA m E)) := by rw [h]
theorem of_ex (n : Int) (w : World) (hn : I64 n) : Calls Try.prog 54 #[.int .i64 n] w fun e w' => e = .returned (.agg #[.bool (decide (n < 0)), .int .i64 (cdig (n.natAbs : Int) 0), .int .i64 (cdig (n.natAbs : Int) 1), .int .i64 (cdig (n.natAbs : Int) 2), .int .i64 (cdig (n.natAbs : Int) 3), .int .i64 (cdig (n.natAbs : Int) 4), .int .i64 (cdig (n.natAbs : Int) 5), .int .i64 (cdig (n.natAbs : Int) 6), .int .i64 (cdig (n.natAbs : Int) 7)]) ∧ Below w.heap.size w w' := by
  by_cases h : n < 0
  · rw [decide_eq_true h]
    exact (of_neg n w hn h).mono fun _ _ ⟨D, he, hr, hb⟩ => ⟨he.trans (ret_big (hr.cells true)), hb⟩
  · rw [decide_eq_false h]
    exact (of_pos n w hn (by omega)).mono fun _ _ ⟨D, he, hr, hb⟩ => ⟨he.trans (ret_big (hr.cells false)), hb⟩
theorem rep_abs {n : Int} (hn : I64 n) : Rep (cdig (n.natAbs : Int)) (n.natAbs : Int) ∧ (n.natAbs : Int) < 18446744073709551616 := by
  have h1 := hn.1; have h2 := hn.2
  exact ⟨rep_cdig (by omega) (by omega), by omega⟩
theorem times_ex (ma mb : Bool) (A B : Int) (w : World) (hA : Rep (cdig A) A) (hB : Rep (cdig B) B) (hA1 : A < 18446744073709551616) (hB1 : B < 18446744073709551616) :
    Calls Try.prog 53 #[.agg #[.bool ma, .int .i64 (cdig A 0), .int .i64 (cdig A 1), .int .i64 (cdig A 2), .int .i64 (cdig A 3), .int .i64 (cdig A 4), .int .i64 (cdig A 5), .int .i64 (cdig A 6), .int .i64 (cdig A 7)], .agg #[.bool mb, .int .i64 (cdig B 0), .int .i64 (cdig B 1), .int .i64 (cdig B 2), .int .i64 (cdig B 3), .int .i64 (cdig B 4), .int .i64 (cdig B 5), .int .i64 (cdig B 6), .int .i64 (cdig B 7)]] w fun e w' => e = .returned (.agg #[.bool (!(ma == mb)), .int .i64 (cdig (A * B) 0), .int .i64 (cdig (A * B) 1), .int .i64 (cdig (A * B) 2), .int .i64 (cdig (A * B) 3), .int .i64 (cdig (A * B) 4), .int .i64 (cdig (A * B) 5), .int .i64 (cdig (A * B) 6), .int .i64 (cdig (A * B) 7)]) ∧ Below w.heap.size w w' :=
  (times_calls ma mb (cdig A) (cdig B) A B w hA hB hA1 hB1).mono fun _ _ ⟨D, he, hr, hb⟩ => ⟨he.trans (ret_big (hr.cells _)), hb⟩
theorem mul_rep {A B : Int} (hA : Rep (cdig A) A) (hB : Rep (cdig B) B) (hA1 : A < 18446744073709551616) (hB1 : B < 18446744073709551616) : Rep (cdig (A * B)) (A * B) := by
  have h1 := hA.nonneg; have h2 := hB.nonneg
  have h3 := Int.mul_nonneg h1 h2
  have h4 : A * B ≤ 18446744073709551615 * 18446744073709551615 := Int.mul_le_mul (by omega) (by omega) h2 (by omega)
  exact rep_cdig h3 (by omega)
theorem shift_ex (m : Bool) (V : Int) (w : World) (hV : Rep (cdig V) V) : Calls Try.prog 52 #[.agg #[.bool m, .int .i64 (cdig V 0), .int .i64 (cdig V 1), .int .i64 (cdig V 2), .int .i64 (cdig V 3), .int .i64 (cdig V 4), .int .i64 (cdig V 5), .int .i64 (cdig V 6), .int .i64 (cdig V 7)], .int .i64 (-2)] w fun e w' => e = .returned (.agg #[.bool m, .int .i64 (cdig (V / 4294967296) 0), .int .i64 (cdig (V / 4294967296) 1), .int .i64 (cdig (V / 4294967296) 2), .int .i64 (cdig (V / 4294967296) 3), .int .i64 (cdig (V / 4294967296) 4), .int .i64 (cdig (V / 4294967296) 5), .int .i64 (cdig (V / 4294967296) 6), .int .i64 (cdig (V / 4294967296) 7)]) ∧ Below w.heap.size w w' :=
  (shift_m2 m (cdig V) V w hV).mono fun _ _ ⟨D, he, hr, hb⟩ => ⟨he.trans (ret_big (hr.cells _)), hb⟩
theorem stop_ex (m : Bool) (V : Int) (w : World) (hV : Rep (cdig V) V) : Calls Try.prog 51 #[.agg #[.bool m, .int .i64 (cdig V 0), .int .i64 (cdig V 1), .int .i64 (cdig V 2), .int .i64 (cdig V 3), .int .i64 (cdig V 4), .int .i64 (cdig V 5), .int .i64 (cdig V 6), .int .i64 (cdig V 7)]] w fun e w' => e = .returned (.int .i64 (sat (if m then -V else V))) ∧ Below w.heap.size w w' :=
  stop_calls m (cdig V) V w hV
theorem compare_ex (ma mb : Bool) (A B : Int) (w : World) (hA : Rep (cdig A) A) (hB : Rep (cdig B) B) :
    Calls Try.prog 46 #[.agg #[.bool ma, .int .i64 (cdig A 0), .int .i64 (cdig A 1), .int .i64 (cdig A 2), .int .i64 (cdig A 3), .int .i64 (cdig A 4), .int .i64 (cdig A 5), .int .i64 (cdig A 6), .int .i64 (cdig A 7)], .agg #[.bool mb, .int .i64 (cdig B 0), .int .i64 (cdig B 1), .int .i64 (cdig B 2), .int .i64 (cdig B 3), .int .i64 (cdig B 4), .int .i64 (cdig B 5), .int .i64 (cdig B 6), .int .i64 (cdig B 7)]] w fun e w' => e = .returned (.int .i64 (cmpI A B)) ∧ Below w.heap.size w w' :=
  compare_calls ma mb (cdig A) (cdig B) A B w hA hB
theorem plus_ex (ma mb : Bool) (A B : Int) (w : World) (hA : Rep (cdig A) A) (hB : Rep (cdig B) B) (hAB : A + B < 340282366920938463463374607431768211456) :
    Calls Try.prog 44 #[.agg #[.bool ma, .int .i64 (cdig A 0), .int .i64 (cdig A 1), .int .i64 (cdig A 2), .int .i64 (cdig A 3), .int .i64 (cdig A 4), .int .i64 (cdig A 5), .int .i64 (cdig A 6), .int .i64 (cdig A 7)], .agg #[.bool mb, .int .i64 (cdig B 0), .int .i64 (cdig B 1), .int .i64 (cdig B 2), .int .i64 (cdig B 3), .int .i64 (cdig B 4), .int .i64 (cdig B 5), .int .i64 (cdig B 6), .int .i64 (cdig B 7)]] w fun e w' => e = .returned (.agg #[.bool false, .int .i64 (cdig (A + B) 0), .int .i64 (cdig (A + B) 1), .int .i64 (cdig (A + B) 2), .int .i64 (cdig (A + B) 3), .int .i64 (cdig (A + B) 4), .int .i64 (cdig (A + B) 5), .int .i64 (cdig (A + B) 6), .int .i64 (cdig (A + B) 7)]) ∧ Below w.heap.size w w' :=
  plus_calls ma mb (cdig A) (cdig B) A B w hA hB hAB
set_option maxHeartbeats 4000000 in
set_option maxRecDepth 100000 in
theorem square_calls (n : Int) (w : World) (hn : I64 n) :
    Calls Try.prog 45 #[.int .i64 n] w
      fun e w' => e = .returned (.agg #[.bool false, .int .i64 (cdig (n * n) 0), .int .i64 (cdig (n * n) 1), .int .i64 (cdig (n * n) 2), .int .i64 (cdig (n * n) 3), .int .i64 (cdig (n * n) 4), .int .i64 (cdig (n * n) 5), .int .i64 (cdig (n * n) 6), .int .i64 (cdig (n * n) 7)]) ∧ Below w.heap.size w w' := by
  have HB := Aside0.mk (Below.refl w.heap.size w)
  obtain ⟨r1, r2⟩ := rep_abs hn
  have e1 : (n.natAbs : Int) * (n.natAbs : Int) = n * n := abs_sq n
  have E1 := Lib.hid e1; clear e1
  go_enter Try.func45, Try.ntmps45
  go_wp2_with (first | ((with_reducible refine gate_dst (N := 2) rfl ?_); refine box_event ?hg (N := 2) ?hd (cs := #[.bool false, .int .i64 0, .int .i64 0, .int .i64 0, .int .i64 0, .int .i64 0, .int .i64 0, .int .i64 0, .int .i64 0]) (t := 52) ?hr ?_; (case hd => rfl); (case hg => rfl); (case hr => first | (go_simp; done) | (go_simp; rfl)); intro g2 hg_ W1 hbox_ hb_; have GEg2 := Aside0.mk ((by rw [hg_]; exact (below_size HB.out)) : w.heap.size ≤ g2); clear hg_; have n_ := Aside0.mk (below_step HB.out hb_); clear HB; have HB := n_; clear n_; have BKg2 := Aside0.mk hbox_; clear hbox_ hb_; have hcg2_0 : W1.cell? ⟨g2, 0, none⟩ = some (.bool false) := (blk_cell BKg2.out 0).trans rfl; have hfg2_0 := blk_frozen BKg2.out 0; have hcg2_1 : W1.cell? ⟨g2, 1, none⟩ = some (.int .i64 0) := (blk_cell BKg2.out 1).trans rfl; have hfg2_1 := blk_frozen BKg2.out 1; have hcg2_2 : W1.cell? ⟨g2, 2, none⟩ = some (.int .i64 0) := (blk_cell BKg2.out 2).trans rfl; have hfg2_2 := blk_frozen BKg2.out 2; have hcg2_3 : W1.cell? ⟨g2, 3, none⟩ = some (.int .i64 0) := (blk_cell BKg2.out 3).trans rfl; have hfg2_3 := blk_frozen BKg2.out 3; have hcg2_4 : W1.cell? ⟨g2, 4, none⟩ = some (.int .i64 0) := (blk_cell BKg2.out 4).trans rfl; have hfg2_4 := blk_frozen BKg2.out 4; have hcg2_5 : W1.cell? ⟨g2, 5, none⟩ = some (.int .i64 0) := (blk_cell BKg2.out 5).trans rfl; have hfg2_5 := blk_frozen BKg2.out 5; have hcg2_6 : W1.cell? ⟨g2, 6, none⟩ = some (.int .i64 0) := (blk_cell BKg2.out 6).trans rfl; have hfg2_6 := blk_frozen BKg2.out 6; have hcg2_7 : W1.cell? ⟨g2, 7, none⟩ = some (.int .i64 0) := (blk_cell BKg2.out 7).trans rfl; have hfg2_7 := blk_frozen BKg2.out 7; have hcg2_8 : W1.cell? ⟨g2, 8, none⟩ = some (.int .i64 0) := (blk_cell BKg2.out 8).trans rfl; have hfg2_8 := blk_frozen BKg2.out 8))
  ((with_reducible refine (of_ex _ _ hn).mono ?_); rintro e_ W2 ⟨rfl, hb_⟩)
  have n_ := Aside0.mk (blk_below BKg2.out hb_); clear BKg2; have BKg2 := n_; clear n_
  clear hcg2_0 hfg2_0
  clear hcg2_1 hfg2_1
  clear hcg2_2 hfg2_2
  clear hcg2_3 hfg2_3
  clear hcg2_4 hfg2_4
  clear hcg2_5 hfg2_5
  clear hcg2_6 hfg2_6
  clear hcg2_7 hfg2_7
  clear hcg2_8 hfg2_8
  have n_ := Aside0.mk (below_step HB.out hb_); clear HB; have HB := n_; clear n_
  clear hb_
  have hcg2_0 : W2.cell? ⟨g2, 0, none⟩ = some (.bool false) := (blk_cell BKg2.out 0).trans rfl
  have hfg2_0 := blk_frozen BKg2.out 0
  have hcg2_1 : W2.cell? ⟨g2, 1, none⟩ = some (.int .i64 0) := (blk_cell BKg2.out 1).trans rfl
  have hfg2_1 := blk_frozen BKg2.out 1
  have hcg2_2 : W2.cell? ⟨g2, 2, none⟩ = some (.int .i64 0) := (blk_cell BKg2.out 2).trans rfl
  have hfg2_2 := blk_frozen BKg2.out 2
  have hcg2_3 : W2.cell? ⟨g2, 3, none⟩ = some (.int .i64 0) := (blk_cell BKg2.out 3).trans rfl
  have hfg2_3 := blk_frozen BKg2.out 3
  have hcg2_4 : W2.cell? ⟨g2, 4, none⟩ = some (.int .i64 0) := (blk_cell BKg2.out 4).trans rfl
  have hfg2_4 := blk_frozen BKg2.out 4
  have hcg2_5 : W2.cell? ⟨g2, 5, none⟩ = some (.int .i64 0) := (blk_cell BKg2.out 5).trans rfl
  have hfg2_5 := blk_frozen BKg2.out 5
  have hcg2_6 : W2.cell? ⟨g2, 6, none⟩ = some (.int .i64 0) := (blk_cell BKg2.out 6).trans rfl
  have hfg2_6 := blk_frozen BKg2.out 6
  have hcg2_7 : W2.cell? ⟨g2, 7, none⟩ = some (.int .i64 0) := (blk_cell BKg2.out 7).trans rfl
  have hfg2_7 := blk_frozen BKg2.out 7
  have hcg2_8 : W2.cell? ⟨g2, 8, none⟩ = some (.int .i64 0) := (blk_cell BKg2.out 8).trans rfl
  have hfg2_8 := blk_frozen BKg2.out 8
  go_wp2_with (first | ((with_reducible refine gate_dst (N := 3) rfl ?_); refine box_event ?hg (N := 3) ?hd (cs := #[.bool false, .int .i64 0, .int .i64 0, .int .i64 0, .int .i64 0, .int .i64 0, .int .i64 0, .int .i64 0, .int .i64 0]) (t := 52) ?hr ?_; (case hd => rfl); (case hg => rfl); (case hr => first | (go_simp; done) | (go_simp; rfl)); intro g3 hg_ W3 hbox_ hb_; have GEg3 := Aside0.mk ((by rw [hg_]; exact (below_size HB.out)) : w.heap.size ≤ g3); have NBg2_g3 : g2 ≠ g3 := (by rw [hg_]; exact Nat.ne_of_lt (blk_lt BKg2.out)); have NBg3_g2 : g3 ≠ g2 := Ne.symm NBg2_g3; clear hg_; have n_ := Aside0.mk (blk_below BKg2.out hb_); clear BKg2; have BKg2 := n_; clear n_; clear hcg2_0 hfg2_0; clear hcg2_1 hfg2_1; clear hcg2_2 hfg2_2; clear hcg2_3 hfg2_3; clear hcg2_4 hfg2_4; clear hcg2_5 hfg2_5; clear hcg2_6 hfg2_6; clear hcg2_7 hfg2_7; clear hcg2_8 hfg2_8; have n_ := Aside0.mk (below_step HB.out hb_); clear HB; have HB := n_; clear n_; have BKg3 := Aside0.mk hbox_; clear hbox_ hb_; have hcg2_0 : W3.cell? ⟨g2, 0, none⟩ = some (.bool false) := (blk_cell BKg2.out 0).trans rfl; have hfg2_0 := blk_frozen BKg2.out 0; have hcg2_1 : W3.cell? ⟨g2, 1, none⟩ = some (.int .i64 0) := (blk_cell BKg2.out 1).trans rfl; have hfg2_1 := blk_frozen BKg2.out 1; have hcg2_2 : W3.cell? ⟨g2, 2, none⟩ = some (.int .i64 0) := (blk_cell BKg2.out 2).trans rfl; have hfg2_2 := blk_frozen BKg2.out 2; have hcg2_3 : W3.cell? ⟨g2, 3, none⟩ = some (.int .i64 0) := (blk_cell BKg2.out 3).trans rfl; have hfg2_3 := blk_frozen BKg2.out 3; have hcg2_4 : W3.cell? ⟨g2, 4, none⟩ = some (.int .i64 0) := (blk_cell BKg2.out 4).trans rfl; have hfg2_4 := blk_frozen BKg2.out 4; have hcg2_5 : W3.cell? ⟨g2, 5, none⟩ = some (.int .i64 0) := (blk_cell BKg2.out 5).trans rfl; have hfg2_5 := blk_frozen BKg2.out 5; have hcg2_6 : W3.cell? ⟨g2, 6, none⟩ = some (.int .i64 0) := (blk_cell BKg2.out 6).trans rfl; have hfg2_6 := blk_frozen BKg2.out 6; have hcg2_7 : W3.cell? ⟨g2, 7, none⟩ = some (.int .i64 0) := (blk_cell BKg2.out 7).trans rfl; have hfg2_7 := blk_frozen BKg2.out 7; have hcg2_8 : W3.cell? ⟨g2, 8, none⟩ = some (.int .i64 0) := (blk_cell BKg2.out 8).trans rfl; have hfg2_8 := blk_frozen BKg2.out 8; have hcg3_0 : W3.cell? ⟨g3, 0, none⟩ = some (.bool false) := (blk_cell BKg3.out 0).trans rfl; have hfg3_0 := blk_frozen BKg3.out 0; have hcg3_1 : W3.cell? ⟨g3, 1, none⟩ = some (.int .i64 0) := (blk_cell BKg3.out 1).trans rfl; have hfg3_1 := blk_frozen BKg3.out 1; have hcg3_2 : W3.cell? ⟨g3, 2, none⟩ = some (.int .i64 0) := (blk_cell BKg3.out 2).trans rfl; have hfg3_2 := blk_frozen BKg3.out 2; have hcg3_3 : W3.cell? ⟨g3, 3, none⟩ = some (.int .i64 0) := (blk_cell BKg3.out 3).trans rfl; have hfg3_3 := blk_frozen BKg3.out 3; have hcg3_4 : W3.cell? ⟨g3, 4, none⟩ = some (.int .i64 0) := (blk_cell BKg3.out 4).trans rfl; have hfg3_4 := blk_frozen BKg3.out 4; have hcg3_5 : W3.cell? ⟨g3, 5, none⟩ = some (.int .i64 0) := (blk_cell BKg3.out 5).trans rfl; have hfg3_5 := blk_frozen BKg3.out 5; have hcg3_6 : W3.cell? ⟨g3, 6, none⟩ = some (.int .i64 0) := (blk_cell BKg3.out 6).trans rfl; have hfg3_6 := blk_frozen BKg3.out 6; have hcg3_7 : W3.cell? ⟨g3, 7, none⟩ = some (.int .i64 0) := (blk_cell BKg3.out 7).trans rfl; have hfg3_7 := blk_frozen BKg3.out 7; have hcg3_8 : W3.cell? ⟨g3, 8, none⟩ = some (.int .i64 0) := (blk_cell BKg3.out 8).trans rfl; have hfg3_8 := blk_frozen BKg3.out 8))
  have n_ : Aside0 ((((((((((W3.setCell ⟨g3, 0, none⟩ (.bool (decide (n < 0)))).setCell ⟨g3, 1, none⟩ (.int .i64 (cdig (n.natAbs : Int) 0))).setCell ⟨g3, 2, none⟩ (.int .i64 (cdig (n.natAbs : Int) 1))).setCell ⟨g3, 3, none⟩ (.int .i64 (cdig (n.natAbs : Int) 2))).setCell ⟨g3, 4, none⟩ (.int .i64 (cdig (n.natAbs : Int) 3))).setCell ⟨g3, 5, none⟩ (.int .i64 (cdig (n.natAbs : Int) 4))).setCell ⟨g3, 6, none⟩ (.int .i64 (cdig (n.natAbs : Int) 5))).setCell ⟨g3, 7, none⟩ (.int .i64 (cdig (n.natAbs : Int) 6))).setCell ⟨g3, 8, none⟩ (.int .i64 (cdig (n.natAbs : Int) 7))).heap[g3]? = some (.cells #[.bool (decide (n < 0)), .int .i64 (cdig (n.natAbs : Int) 0), .int .i64 (cdig (n.natAbs : Int) 1), .int .i64 (cdig (n.natAbs : Int) 2), .int .i64 (cdig (n.natAbs : Int) 3), .int .i64 (cdig (n.natAbs : Int) 4), .int .i64 (cdig (n.natAbs : Int) 5), .int .i64 (cdig (n.natAbs : Int) 6), .int .i64 (cdig (n.natAbs : Int) 7)] 52 (0, 0))) := ⟨by refine blk_put (cs := #[.bool (decide (n < 0)), .int .i64 (cdig (n.natAbs : Int) 0), .int .i64 (cdig (n.natAbs : Int) 1), .int .i64 (cdig (n.natAbs : Int) 2), .int .i64 (cdig (n.natAbs : Int) 3), .int .i64 (cdig (n.natAbs : Int) 4), .int .i64 (cdig (n.natAbs : Int) 5), .int .i64 (cdig (n.natAbs : Int) 6), .int .i64 0]) ?_ 8 _ rfl; refine blk_put (cs := #[.bool (decide (n < 0)), .int .i64 (cdig (n.natAbs : Int) 0), .int .i64 (cdig (n.natAbs : Int) 1), .int .i64 (cdig (n.natAbs : Int) 2), .int .i64 (cdig (n.natAbs : Int) 3), .int .i64 (cdig (n.natAbs : Int) 4), .int .i64 (cdig (n.natAbs : Int) 5), .int .i64 0, .int .i64 0]) ?_ 7 _ rfl; refine blk_put (cs := #[.bool (decide (n < 0)), .int .i64 (cdig (n.natAbs : Int) 0), .int .i64 (cdig (n.natAbs : Int) 1), .int .i64 (cdig (n.natAbs : Int) 2), .int .i64 (cdig (n.natAbs : Int) 3), .int .i64 (cdig (n.natAbs : Int) 4), .int .i64 0, .int .i64 0, .int .i64 0]) ?_ 6 _ rfl; refine blk_put (cs := #[.bool (decide (n < 0)), .int .i64 (cdig (n.natAbs : Int) 0), .int .i64 (cdig (n.natAbs : Int) 1), .int .i64 (cdig (n.natAbs : Int) 2), .int .i64 (cdig (n.natAbs : Int) 3), .int .i64 0, .int .i64 0, .int .i64 0, .int .i64 0]) ?_ 5 _ rfl; refine blk_put (cs := #[.bool (decide (n < 0)), .int .i64 (cdig (n.natAbs : Int) 0), .int .i64 (cdig (n.natAbs : Int) 1), .int .i64 (cdig (n.natAbs : Int) 2), .int .i64 0, .int .i64 0, .int .i64 0, .int .i64 0, .int .i64 0]) ?_ 4 _ rfl; refine blk_put (cs := #[.bool (decide (n < 0)), .int .i64 (cdig (n.natAbs : Int) 0), .int .i64 (cdig (n.natAbs : Int) 1), .int .i64 0, .int .i64 0, .int .i64 0, .int .i64 0, .int .i64 0, .int .i64 0]) ?_ 3 _ rfl; refine blk_put (cs := #[.bool (decide (n < 0)), .int .i64 (cdig (n.natAbs : Int) 0), .int .i64 0, .int .i64 0, .int .i64 0, .int .i64 0, .int .i64 0, .int .i64 0, .int .i64 0]) ?_ 2 _ rfl; refine blk_put (cs := #[.bool (decide (n < 0)), .int .i64 0, .int .i64 0, .int .i64 0, .int .i64 0, .int .i64 0, .int .i64 0, .int .i64 0, .int .i64 0]) ?_ 1 _ rfl; refine blk_put (cs := #[.bool false, .int .i64 0, .int .i64 0, .int .i64 0, .int .i64 0, .int .i64 0, .int .i64 0, .int .i64 0, .int .i64 0]) ?_ 0 _ rfl; exact BKg3.out⟩
  have m_ : Aside0 ((((((((((W3.setCell ⟨g3, 0, none⟩ (.bool (decide (n < 0)))).setCell ⟨g3, 1, none⟩ (.int .i64 (cdig (n.natAbs : Int) 0))).setCell ⟨g3, 2, none⟩ (.int .i64 (cdig (n.natAbs : Int) 1))).setCell ⟨g3, 3, none⟩ (.int .i64 (cdig (n.natAbs : Int) 2))).setCell ⟨g3, 4, none⟩ (.int .i64 (cdig (n.natAbs : Int) 3))).setCell ⟨g3, 5, none⟩ (.int .i64 (cdig (n.natAbs : Int) 4))).setCell ⟨g3, 6, none⟩ (.int .i64 (cdig (n.natAbs : Int) 5))).setCell ⟨g3, 7, none⟩ (.int .i64 (cdig (n.natAbs : Int) 6))).setCell ⟨g3, 8, none⟩ (.int .i64 (cdig (n.natAbs : Int) 7))).heap[g2]? = some (.cells #[.bool false, .int .i64 0, .int .i64 0, .int .i64 0, .int .i64 0, .int .i64 0, .int .i64 0, .int .i64 0, .int .i64 0] 52 (0, 0))) := ⟨(blk_far (blk_far (blk_far (blk_far (blk_far (blk_far (blk_far (blk_far (blk_far BKg2.out NBg2_g3 _) NBg2_g3 _) NBg2_g3 _) NBg2_g3 _) NBg2_g3 _) NBg2_g3 _) NBg2_g3 _) NBg2_g3 _) NBg2_g3 _)⟩
  clear BKg2; have BKg2 := m_; clear m_
  have b_ : Aside0 (Below w.heap.size w (((((((((W3.setCell ⟨g3, 0, none⟩ (.bool (decide (n < 0)))).setCell ⟨g3, 1, none⟩ (.int .i64 (cdig (n.natAbs : Int) 0))).setCell ⟨g3, 2, none⟩ (.int .i64 (cdig (n.natAbs : Int) 1))).setCell ⟨g3, 3, none⟩ (.int .i64 (cdig (n.natAbs : Int) 2))).setCell ⟨g3, 4, none⟩ (.int .i64 (cdig (n.natAbs : Int) 3))).setCell ⟨g3, 5, none⟩ (.int .i64 (cdig (n.natAbs : Int) 4))).setCell ⟨g3, 6, none⟩ (.int .i64 (cdig (n.natAbs : Int) 5))).setCell ⟨g3, 7, none⟩ (.int .i64 (cdig (n.natAbs : Int) 6))).setCell ⟨g3, 8, none⟩ (.int .i64 (cdig (n.natAbs : Int) 7)))) := ⟨(below_set (below_set (below_set (below_set (below_set (below_set (below_set (below_set (below_set HB.out GEg3.out) GEg3.out) GEg3.out) GEg3.out) GEg3.out) GEg3.out) GEg3.out) GEg3.out) GEg3.out)⟩
  clear BKg3 HB; have BKg3 := n_; have HB := b_; clear n_ b_
  clear hcg2_0 hfg2_0
  clear hcg2_1 hfg2_1
  clear hcg2_2 hfg2_2
  clear hcg2_3 hfg2_3
  clear hcg2_4 hfg2_4
  clear hcg2_5 hfg2_5
  clear hcg2_6 hfg2_6
  clear hcg2_7 hfg2_7
  clear hcg2_8 hfg2_8
  clear hcg3_0 hfg3_0
  clear hcg3_1 hfg3_1
  clear hcg3_2 hfg3_2
  clear hcg3_3 hfg3_3
  clear hcg3_4 hfg3_4
  clear hcg3_5 hfg3_5
  clear hcg3_6 hfg3_6
  clear hcg3_7 hfg3_7
  clear hcg3_8 hfg3_8
  generalize (((((((((W3.setCell ⟨g3, 0, none⟩ (.bool (decide (n < 0)))).setCell ⟨g3, 1, none⟩ (.int .i64 (cdig (n.natAbs : Int) 0))).setCell ⟨g3, 2, none⟩ (.int .i64 (cdig (n.natAbs : Int) 1))).setCell ⟨g3, 3, none⟩ (.int .i64 (cdig (n.natAbs : Int) 2))).setCell ⟨g3, 4, none⟩ (.int .i64 (cdig (n.natAbs : Int) 3))).setCell ⟨g3, 5, none⟩ (.int .i64 (cdig (n.natAbs : Int) 4))).setCell ⟨g3, 6, none⟩ (.int .i64 (cdig (n.natAbs : Int) 5))).setCell ⟨g3, 7, none⟩ (.int .i64 (cdig (n.natAbs : Int) 6))).setCell ⟨g3, 8, none⟩ (.int .i64 (cdig (n.natAbs : Int) 7))) = W4 at *
  have hcg2_0 : W4.cell? ⟨g2, 0, none⟩ = some (.bool false) := (blk_cell BKg2.out 0).trans rfl
  have hfg2_0 := blk_frozen BKg2.out 0
  have hcg2_1 : W4.cell? ⟨g2, 1, none⟩ = some (.int .i64 0) := (blk_cell BKg2.out 1).trans rfl
  have hfg2_1 := blk_frozen BKg2.out 1
  have hcg2_2 : W4.cell? ⟨g2, 2, none⟩ = some (.int .i64 0) := (blk_cell BKg2.out 2).trans rfl
  have hfg2_2 := blk_frozen BKg2.out 2
  have hcg2_3 : W4.cell? ⟨g2, 3, none⟩ = some (.int .i64 0) := (blk_cell BKg2.out 3).trans rfl
  have hfg2_3 := blk_frozen BKg2.out 3
  have hcg2_4 : W4.cell? ⟨g2, 4, none⟩ = some (.int .i64 0) := (blk_cell BKg2.out 4).trans rfl
  have hfg2_4 := blk_frozen BKg2.out 4
  have hcg2_5 : W4.cell? ⟨g2, 5, none⟩ = some (.int .i64 0) := (blk_cell BKg2.out 5).trans rfl
  have hfg2_5 := blk_frozen BKg2.out 5
  have hcg2_6 : W4.cell? ⟨g2, 6, none⟩ = some (.int .i64 0) := (blk_cell BKg2.out 6).trans rfl
  have hfg2_6 := blk_frozen BKg2.out 6
  have hcg2_7 : W4.cell? ⟨g2, 7, none⟩ = some (.int .i64 0) := (blk_cell BKg2.out 7).trans rfl
  have hfg2_7 := blk_frozen BKg2.out 7
  have hcg2_8 : W4.cell? ⟨g2, 8, none⟩ = some (.int .i64 0) := (blk_cell BKg2.out 8).trans rfl
  have hfg2_8 := blk_frozen BKg2.out 8
  have hcg3_0 : W4.cell? ⟨g3, 0, none⟩ = some (.bool (decide (n < 0))) := (blk_cell BKg3.out 0).trans rfl
  have hfg3_0 := blk_frozen BKg3.out 0
  have hcg3_1 : W4.cell? ⟨g3, 1, none⟩ = some (.int .i64 (cdig (n.natAbs : Int) 0)) := (blk_cell BKg3.out 1).trans rfl
  have hfg3_1 := blk_frozen BKg3.out 1
  have hcg3_2 : W4.cell? ⟨g3, 2, none⟩ = some (.int .i64 (cdig (n.natAbs : Int) 1)) := (blk_cell BKg3.out 2).trans rfl
  have hfg3_2 := blk_frozen BKg3.out 2
  have hcg3_3 : W4.cell? ⟨g3, 3, none⟩ = some (.int .i64 (cdig (n.natAbs : Int) 2)) := (blk_cell BKg3.out 3).trans rfl
  have hfg3_3 := blk_frozen BKg3.out 3
  have hcg3_4 : W4.cell? ⟨g3, 4, none⟩ = some (.int .i64 (cdig (n.natAbs : Int) 3)) := (blk_cell BKg3.out 4).trans rfl
  have hfg3_4 := blk_frozen BKg3.out 4
  have hcg3_5 : W4.cell? ⟨g3, 5, none⟩ = some (.int .i64 (cdig (n.natAbs : Int) 4)) := (blk_cell BKg3.out 5).trans rfl
  have hfg3_5 := blk_frozen BKg3.out 5
  have hcg3_6 : W4.cell? ⟨g3, 6, none⟩ = some (.int .i64 (cdig (n.natAbs : Int) 5)) := (blk_cell BKg3.out 6).trans rfl
  have hfg3_6 := blk_frozen BKg3.out 6
  have hcg3_7 : W4.cell? ⟨g3, 7, none⟩ = some (.int .i64 (cdig (n.natAbs : Int) 6)) := (blk_cell BKg3.out 7).trans rfl
  have hfg3_7 := blk_frozen BKg3.out 7
  have hcg3_8 : W4.cell? ⟨g3, 8, none⟩ = some (.int .i64 (cdig (n.natAbs : Int) 7)) := (blk_cell BKg3.out 8).trans rfl
  have hfg3_8 := blk_frozen BKg3.out 8
  ((with_reducible refine (times_ex (decide (n < 0)) (decide (n < 0)) (n.natAbs : Int) (n.natAbs : Int) _ r1 r1 r2 r2).mono ?_); rintro e_ W5 ⟨rfl, hb_⟩)
  have n_ := Aside0.mk (blk_below BKg2.out hb_); clear BKg2; have BKg2 := n_; clear n_
  clear hcg2_0 hfg2_0
  clear hcg2_1 hfg2_1
  clear hcg2_2 hfg2_2
  clear hcg2_3 hfg2_3
  clear hcg2_4 hfg2_4
  clear hcg2_5 hfg2_5
  clear hcg2_6 hfg2_6
  clear hcg2_7 hfg2_7
  clear hcg2_8 hfg2_8
  have n_ := Aside0.mk (blk_below BKg3.out hb_); clear BKg3; have BKg3 := n_; clear n_
  clear hcg3_0 hfg3_0
  clear hcg3_1 hfg3_1
  clear hcg3_2 hfg3_2
  clear hcg3_3 hfg3_3
  clear hcg3_4 hfg3_4
  clear hcg3_5 hfg3_5
  clear hcg3_6 hfg3_6
  clear hcg3_7 hfg3_7
  clear hcg3_8 hfg3_8
  have n_ := Aside0.mk (below_step HB.out hb_); clear HB; have HB := n_; clear n_
  clear hb_
  have hcg2_0 : W5.cell? ⟨g2, 0, none⟩ = some (.bool false) := (blk_cell BKg2.out 0).trans rfl
  have hfg2_0 := blk_frozen BKg2.out 0
  have hcg2_1 : W5.cell? ⟨g2, 1, none⟩ = some (.int .i64 0) := (blk_cell BKg2.out 1).trans rfl
  have hfg2_1 := blk_frozen BKg2.out 1
  have hcg2_2 : W5.cell? ⟨g2, 2, none⟩ = some (.int .i64 0) := (blk_cell BKg2.out 2).trans rfl
  have hfg2_2 := blk_frozen BKg2.out 2
  have hcg2_3 : W5.cell? ⟨g2, 3, none⟩ = some (.int .i64 0) := (blk_cell BKg2.out 3).trans rfl
  have hfg2_3 := blk_frozen BKg2.out 3
  have hcg2_4 : W5.cell? ⟨g2, 4, none⟩ = some (.int .i64 0) := (blk_cell BKg2.out 4).trans rfl
  have hfg2_4 := blk_frozen BKg2.out 4
  have hcg2_5 : W5.cell? ⟨g2, 5, none⟩ = some (.int .i64 0) := (blk_cell BKg2.out 5).trans rfl
  have hfg2_5 := blk_frozen BKg2.out 5
  have hcg2_6 : W5.cell? ⟨g2, 6, none⟩ = some (.int .i64 0) := (blk_cell BKg2.out 6).trans rfl
  have hfg2_6 := blk_frozen BKg2.out 6
  have hcg2_7 : W5.cell? ⟨g2, 7, none⟩ = some (.int .i64 0) := (blk_cell BKg2.out 7).trans rfl
  have hfg2_7 := blk_frozen BKg2.out 7
  have hcg2_8 : W5.cell? ⟨g2, 8, none⟩ = some (.int .i64 0) := (blk_cell BKg2.out 8).trans rfl
  have hfg2_8 := blk_frozen BKg2.out 8
  have hcg3_0 : W5.cell? ⟨g3, 0, none⟩ = some (.bool (decide (n < 0))) := (blk_cell BKg3.out 0).trans rfl
  have hfg3_0 := blk_frozen BKg3.out 0
  have hcg3_1 : W5.cell? ⟨g3, 1, none⟩ = some (.int .i64 (cdig (n.natAbs : Int) 0)) := (blk_cell BKg3.out 1).trans rfl
  have hfg3_1 := blk_frozen BKg3.out 1
  have hcg3_2 : W5.cell? ⟨g3, 2, none⟩ = some (.int .i64 (cdig (n.natAbs : Int) 1)) := (blk_cell BKg3.out 2).trans rfl
  have hfg3_2 := blk_frozen BKg3.out 2
  have hcg3_3 : W5.cell? ⟨g3, 3, none⟩ = some (.int .i64 (cdig (n.natAbs : Int) 2)) := (blk_cell BKg3.out 3).trans rfl
  have hfg3_3 := blk_frozen BKg3.out 3
  have hcg3_4 : W5.cell? ⟨g3, 4, none⟩ = some (.int .i64 (cdig (n.natAbs : Int) 3)) := (blk_cell BKg3.out 4).trans rfl
  have hfg3_4 := blk_frozen BKg3.out 4
  have hcg3_5 : W5.cell? ⟨g3, 5, none⟩ = some (.int .i64 (cdig (n.natAbs : Int) 4)) := (blk_cell BKg3.out 5).trans rfl
  have hfg3_5 := blk_frozen BKg3.out 5
  have hcg3_6 : W5.cell? ⟨g3, 6, none⟩ = some (.int .i64 (cdig (n.natAbs : Int) 5)) := (blk_cell BKg3.out 6).trans rfl
  have hfg3_6 := blk_frozen BKg3.out 6
  have hcg3_7 : W5.cell? ⟨g3, 7, none⟩ = some (.int .i64 (cdig (n.natAbs : Int) 6)) := (blk_cell BKg3.out 7).trans rfl
  have hfg3_7 := blk_frozen BKg3.out 7
  have hcg3_8 : W5.cell? ⟨g3, 8, none⟩ = some (.int .i64 (cdig (n.natAbs : Int) 7)) := (blk_cell BKg3.out 8).trans rfl
  have hfg3_8 := blk_frozen BKg3.out 8
  rw [E1.out, show (!(decide (n < 0) == decide (n < 0))) = false from by cases (decide (n < 0)) <;> rfl]
  go_wp2
  refine bodyPost_ret (results_cell_row rfl _ _ g2 52 #[.bool false, .int .i64 (cdig (n * n) 0), .int .i64 (cdig (n * n) 1), .int .i64 (cdig (n * n) 2), .int .i64 (cdig (n * n) 3), .int .i64 (cdig (n * n) 4), .int .i64 (cdig (n * n) 5), .int .i64 (cdig (n * n) 6), .int .i64 (cdig (n * n) 7)] (0, 0) _ rfl (by (with_reducible repeat (first | refine blk_drewN ?_ _ | refine blk_drew ?_ | refine blk_alloc ?_ _)); refine blk_put (cs := #[.bool false, .int .i64 (cdig (n * n) 0), .int .i64 (cdig (n * n) 1), .int .i64 (cdig (n * n) 2), .int .i64 (cdig (n * n) 3), .int .i64 (cdig (n * n) 4), .int .i64 (cdig (n * n) 5), .int .i64 (cdig (n * n) 6), .int .i64 0]) ?_ 8 _ rfl; (with_reducible repeat (first | refine blk_drewN ?_ _ | refine blk_drew ?_ | refine blk_alloc ?_ _)); refine blk_put (cs := #[.bool false, .int .i64 (cdig (n * n) 0), .int .i64 (cdig (n * n) 1), .int .i64 (cdig (n * n) 2), .int .i64 (cdig (n * n) 3), .int .i64 (cdig (n * n) 4), .int .i64 (cdig (n * n) 5), .int .i64 0, .int .i64 0]) ?_ 7 _ rfl; (with_reducible repeat (first | refine blk_drewN ?_ _ | refine blk_drew ?_ | refine blk_alloc ?_ _)); refine blk_put (cs := #[.bool false, .int .i64 (cdig (n * n) 0), .int .i64 (cdig (n * n) 1), .int .i64 (cdig (n * n) 2), .int .i64 (cdig (n * n) 3), .int .i64 (cdig (n * n) 4), .int .i64 0, .int .i64 0, .int .i64 0]) ?_ 6 _ rfl; (with_reducible repeat (first | refine blk_drewN ?_ _ | refine blk_drew ?_ | refine blk_alloc ?_ _)); refine blk_put (cs := #[.bool false, .int .i64 (cdig (n * n) 0), .int .i64 (cdig (n * n) 1), .int .i64 (cdig (n * n) 2), .int .i64 (cdig (n * n) 3), .int .i64 0, .int .i64 0, .int .i64 0, .int .i64 0]) ?_ 5 _ rfl; (with_reducible repeat (first | refine blk_drewN ?_ _ | refine blk_drew ?_ | refine blk_alloc ?_ _)); refine blk_put (cs := #[.bool false, .int .i64 (cdig (n * n) 0), .int .i64 (cdig (n * n) 1), .int .i64 (cdig (n * n) 2), .int .i64 0, .int .i64 0, .int .i64 0, .int .i64 0, .int .i64 0]) ?_ 4 _ rfl; (with_reducible repeat (first | refine blk_drewN ?_ _ | refine blk_drew ?_ | refine blk_alloc ?_ _)); refine blk_put (cs := #[.bool false, .int .i64 (cdig (n * n) 0), .int .i64 (cdig (n * n) 1), .int .i64 0, .int .i64 0, .int .i64 0, .int .i64 0, .int .i64 0, .int .i64 0]) ?_ 3 _ rfl; (with_reducible repeat (first | refine blk_drewN ?_ _ | refine blk_drew ?_ | refine blk_alloc ?_ _)); refine blk_put (cs := #[.bool false, .int .i64 (cdig (n * n) 0), .int .i64 0, .int .i64 0, .int .i64 0, .int .i64 0, .int .i64 0, .int .i64 0, .int .i64 0]) ?_ 2 _ rfl; (with_reducible repeat (first | refine blk_drewN ?_ _ | refine blk_drew ?_ | refine blk_alloc ?_ _)); refine blk_put (cs := #[.bool false, .int .i64 0, .int .i64 0, .int .i64 0, .int .i64 0, .int .i64 0, .int .i64 0, .int .i64 0, .int .i64 0]) ?_ 1 _ rfl; (with_reducible repeat (first | refine blk_drewN ?_ _ | refine blk_drew ?_ | refine blk_alloc ?_ _)); refine blk_put (cs := #[.bool false, .int .i64 0, .int .i64 0, .int .i64 0, .int .i64 0, .int .i64 0, .int .i64 0, .int .i64 0, .int .i64 0]) ?_ 0 _ rfl; (with_reducible repeat (first | refine blk_drewN ?_ _ | refine blk_drew ?_ | refine blk_alloc ?_ _)); exact BKg2.out) Try.underlying52 rfl (by kernel_rfl)) rfl ?_
  exact ⟨rfl, by repeat (first | (with_reducible first | exact HB.out | apply below_alloc | apply pw_below_drewN | apply below_drew1 | refine below_set ?_ GEg2.out) | exact HB.out)⟩
set_option maxHeartbeats 4000000 in
set_option maxRecDepth 100000 in
theorem rmul_calls (a b : Int) (w : World) (ha : I64 a) (hb : I64 b) :
    Calls Try.prog 43 #[.int .i64 a, .int .i64 b] w
      fun e w' => e = .returned (.int .i64 (fmul a b)) ∧ Below w.heap.size w w' := by
  have HB := Aside0.mk (Below.refl w.heap.size w)
  obtain ⟨r1, r2⟩ := rep_abs ha; obtain ⟨q1, q2⟩ := rep_abs hb
  have r3 := mul_rep r1 q1 r2 q2
  have r4 : Rep (cdig ((a.natAbs : Int) * (b.natAbs : Int) / 4294967296)) ((a.natAbs : Int) * (b.natAbs : Int) / 4294967296) := rep_cdig (by have := r3.nonneg; omega) (by have := r3.nonneg; have := r3.lt; omega)
  have e1 : fmul a b = sat (if (!(decide (a < 0) == decide (b < 0))) = true then -((a.natAbs : Int) * (b.natAbs : Int) / 4294967296) else (a.natAbs : Int) * (b.natAbs : Int) / 4294967296) := rfl
  have E1 := Lib.hid e1; clear e1
  go_enter Try.func43, Try.ntmps43
  go_wp2_with fail
  ((with_reducible refine (of_ex _ _ ha).mono ?_); rintro e_ W1 ⟨rfl, hb_⟩)
  have n_ := Aside0.mk (below_step HB.out hb_); clear HB; have HB := n_; clear n_
  clear hb_
  go_wp2_with fail
  ((with_reducible refine (of_ex _ _ hb).mono ?_); rintro e_ W2 ⟨rfl, hb_⟩)
  have n_ := Aside0.mk (below_step HB.out hb_); clear HB; have HB := n_; clear n_
  clear hb_
  go_wp2_with fail
  ((with_reducible refine (times_ex (decide (a < 0)) (decide (b < 0)) (a.natAbs : Int) (b.natAbs : Int) _ r1 q1 r2 q2).mono ?_); rintro e_ W3 ⟨rfl, hb_⟩)
  have n_ := Aside0.mk (below_step HB.out hb_); clear HB; have HB := n_; clear n_
  clear hb_
  go_wp2_with fail
  ((with_reducible refine (shift_ex (!(decide (a < 0) == decide (b < 0))) ((a.natAbs : Int) * (b.natAbs : Int)) _ r3).mono ?_); rintro e_ W4 ⟨rfl, hb_⟩)
  have n_ := Aside0.mk (below_step HB.out hb_); clear HB; have HB := n_; clear n_
  clear hb_
  go_wp2_with fail
  ((with_reducible refine (stop_ex (!(decide (a < 0) == decide (b < 0))) ((a.natAbs : Int) * (b.natAbs : Int) / 4294967296) _ r4).mono ?_); rintro e_ W5 ⟨rfl, hb_⟩)
  have n_ := Aside0.mk (below_step HB.out hb_); clear HB; have HB := n_; clear n_
  clear hb_
  rw [← E1.out]
  go_wp2
  go_ret
  exact ⟨rfl, (by repeat (first | (with_reducible first | exact HB.out | apply below_alloc | apply pw_below_drewN | apply below_drew1) | exact HB.out))⟩
set_option maxHeartbeats 1000000 in
set_option maxRecDepth 100000 in
theorem rscale_calls (a b k : Int) (w : World) (ha : I64 a) (hb : I64 b) (hk : I64 k) :
    Calls Try.prog 23 #[.agg #[.int .i64 a, .int .i64 b], .int .i64 k] w
      fun e w' => e = .returned (.agg #[.int .i64 (fmul a k), .int .i64 (fmul b k)]) ∧ Below w.heap.size w w' := by
  have HB := Aside0.mk (Below.refl w.heap.size w)
  go_enter Try.func23, Try.ntmps23
  go_wp2_with (first | ((with_reducible refine gate_dst (N := 2) rfl ?_); refine box_event ?hg (N := 2) ?hd (cs := #[.int .i64 a, .int .i64 b]) (t := 23) ?hr ?_; (case hd => rfl); (case hg => rfl); (case hr => first | (go_simp; done) | (go_simp; rfl)); intro g1 hg_ W1 hbox_ hb_; have GEg1 := Aside0.mk ((by rw [hg_]; exact (below_size HB.out)) : w.heap.size ≤ g1); clear hg_; have n_ := Aside0.mk (below_step HB.out hb_); clear HB; have HB := n_; clear n_; have BKg1 := Aside0.mk hbox_; clear hbox_ hb_; have hcg1_0 : W1.cell? ⟨g1, 0, none⟩ = some (.int .i64 a) := (blk_cell BKg1.out 0).trans rfl; have hfg1_0 := blk_frozen BKg1.out 0; have hcg1_1 : W1.cell? ⟨g1, 1, none⟩ = some (.int .i64 b) := (blk_cell BKg1.out 1).trans rfl; have hfg1_1 := blk_frozen BKg1.out 1) | ((with_reducible refine gate_dst (N := 4) rfl ?_); refine box_event ?hg (N := 4) ?hd (cs := #[.int .i64 0, .int .i64 0]) (t := 23) ?hr ?_; (case hd => rfl); (case hg => rfl); (case hr => first | (go_simp; done) | (go_simp; rfl)); intro g3 hg_ W2 hbox_ hb_; have GEg3 := Aside0.mk ((by rw [hg_]; exact (below_size HB.out)) : w.heap.size ≤ g3); have NBg1_g3 : g1 ≠ g3 := (by rw [hg_]; exact Nat.ne_of_lt (blk_lt BKg1.out)); have NBg3_g1 : g3 ≠ g1 := Ne.symm NBg1_g3; clear hg_; have n_ := Aside0.mk (blk_below BKg1.out hb_); clear BKg1; have BKg1 := n_; clear n_; clear hcg1_0 hfg1_0; clear hcg1_1 hfg1_1; have n_ := Aside0.mk (below_step HB.out hb_); clear HB; have HB := n_; clear n_; have BKg3 := Aside0.mk hbox_; clear hbox_ hb_; have hcg1_0 : W2.cell? ⟨g1, 0, none⟩ = some (.int .i64 a) := (blk_cell BKg1.out 0).trans rfl; have hfg1_0 := blk_frozen BKg1.out 0; have hcg1_1 : W2.cell? ⟨g1, 1, none⟩ = some (.int .i64 b) := (blk_cell BKg1.out 1).trans rfl; have hfg1_1 := blk_frozen BKg1.out 1; have hcg3_0 : W2.cell? ⟨g3, 0, none⟩ = some (.int .i64 0) := (blk_cell BKg3.out 0).trans rfl; have hfg3_0 := blk_frozen BKg3.out 0; have hcg3_1 : W2.cell? ⟨g3, 1, none⟩ = some (.int .i64 0) := (blk_cell BKg3.out 1).trans rfl; have hfg3_1 := blk_frozen BKg3.out 1))
  try simp only [Act.put, List.setIfInBounds_toArray, List.set_cons_zero, List.set_cons_succ]
  go_region_held3 (fun w' => w'.cell? ⟨g1, 0, none⟩ = some (.int .i64 a) ∧ w'.cell? ⟨g1, 1, none⟩ = some (.int .i64 b)) (go_keep) (first | (go_at_call 43; (with_reducible refine (rmul_calls _ _ _ (by assumption) hk).mono ?_); rintro e_ W_ ⟨rfl, hb_⟩; have n_ := Aside0.mk (blk_below (g := g1) (show _ from by first | exact BKg1.out | exact blk_drew BKg1.out) hb_); clear BKg1; have BKg1 := n_; clear n_; (try clear hcg1_0); (try clear hfg1_0); (try clear hcg1_1); (try clear hfg1_1); have n_ := Aside0.mk (blk_below (g := g3) (show _ from by first | exact BKg3.out | exact blk_drew BKg3.out) hb_); clear BKg3; have BKg3 := n_; clear n_; (try clear hcg3_0); (try clear hfg3_0); (try clear hcg3_1); (try clear hfg3_1); have n_ := Aside0.mk (below_step (by first | exact HB.out | exact below_drew1 HB.out) hb_); clear HB; have HB := n_; clear n_; clear hb_; have hcg1_0 : W_.cell? ⟨g1, 0, none⟩ = some (.int .i64 a) := (blk_cell BKg1.out 0).trans rfl; have hfg1_0 := blk_frozen BKg1.out 0; have hcg1_1 : W_.cell? ⟨g1, 1, none⟩ = some (.int .i64 b) := (blk_cell BKg1.out 1).trans rfl; have hfg1_1 := blk_frozen BKg1.out 1; have hcg3_0 : W_.cell? ⟨g3, 0, none⟩ = some (.int .i64 0) := (blk_cell BKg3.out 0).trans rfl; have hfg3_0 := blk_frozen BKg3.out 0; have hcg3_1 : W_.cell? ⟨g3, 1, none⟩ = some (.int .i64 0) := (blk_cell BKg3.out 1).trans rfl; have hfg3_1 := blk_frozen BKg3.out 1))
  go_wp2
  refine bodyPost_ret (results_cell_row rfl _ _ g3 23 #[.int .i64 (fmul a k), .int .i64 (fmul b k)] (0, 0) _ rfl (by (with_reducible repeat (first | refine blk_drewN ?_ _ | refine blk_drew ?_ | refine blk_alloc ?_ _)); refine blk_put (cs := #[.int .i64 (fmul a k), .int .i64 0]) ?_ 1 _ rfl; (with_reducible repeat (first | refine blk_drewN ?_ _ | refine blk_drew ?_ | refine blk_alloc ?_ _)); refine blk_put (cs := #[.int .i64 0, .int .i64 0]) ?_ 0 _ rfl; (with_reducible repeat (first | refine blk_drewN ?_ _ | refine blk_drew ?_ | refine blk_alloc ?_ _)); exact BKg3.out) Try.underlying23 rfl (by kernel_rfl)) rfl ?_
  exact ⟨rfl, by repeat (first | (with_reducible first | exact HB.out | apply below_alloc | apply pw_below_drewN | apply below_drew1 | refine below_set ?_ GEg3.out) | exact HB.out)⟩

theorem radd_eq (a b : Int) (ha : I64 a) (hb : I64 b) : PVecWorks.tiltyardref03_Add.f 1 a b = some (sat (a + b)) := by
  obtain ⟨a1, a2⟩ := ha
  obtain ⟨b1, b2⟩ := hb
  unfold PVecWorks.tiltyardref03_Add.f PVecWorks.tiltyardref03_Add.j0 sat wrap64
  by_cases h1 : b > 0 <;> by_cases h2 : b < 0 <;> simp [h1, h2] <;> (repeat' split) <;> first | omega | (simp; done) | (simp; omega) | (simp at *; omega)
theorem radd_calls (a b : Int) (w : World) (ha : I64 a) (hb : I64 b) :
    Calls Try.prog 41 #[.int .i64 a, .int .i64 b] w fun e w' => e = .returned (.int .i64 (sat (a + b))) ∧ ∃ n, w' = w.drewN n :=
  (PVecWorks.tiltyardref03_Add.calls 1 a b _ w (radd_eq a b ha hb)).mono fun _ _ h => ⟨h.1, h.2.out⟩
set_option maxHeartbeats 1000000 in
set_option maxRecDepth 100000 in
theorem rdot_calls (a b c d : Int) (w : World) (ha : I64 a) (hb : I64 b) (hc : I64 c) (hd : I64 d) :
    Calls Try.prog 24 #[.agg #[.int .i64 a, .int .i64 b], .agg #[.int .i64 c, .int .i64 d]] w
      fun e w' => e = .returned (.int .i64 (sat (fmul a c + fmul b d))) ∧ Below w.heap.size w w' := by
  have HB := Aside0.mk (Below.refl w.heap.size w)
  go_enter Try.func24, Try.ntmps24
  go_wp2_with (first | ((with_reducible refine gate_dst (N := 2) rfl ?_); refine box_event ?hg (N := 2) ?hd (cs := #[.int .i64 a, .int .i64 b]) (t := 23) ?hr ?_; (case hd => rfl); (case hg => rfl); (case hr => first | (go_simp; done) | (go_simp; rfl)); intro g1 hg_ W1 hbox_ hb_; have GEg1 := Aside0.mk ((by rw [hg_]; exact (below_size HB.out)) : w.heap.size ≤ g1); clear hg_; have n_ := Aside0.mk (below_step HB.out hb_); clear HB; have HB := n_; clear n_; have BKg1 := Aside0.mk hbox_; clear hbox_ hb_; have hcg1_0 : W1.cell? ⟨g1, 0, none⟩ = some (.int .i64 a) := (blk_cell BKg1.out 0).trans rfl; have hfg1_0 := blk_frozen BKg1.out 0; have hcg1_1 : W1.cell? ⟨g1, 1, none⟩ = some (.int .i64 b) := (blk_cell BKg1.out 1).trans rfl; have hfg1_1 := blk_frozen BKg1.out 1) | ((with_reducible refine gate_dst (N := 3) rfl ?_); refine box_event ?hg (N := 3) ?hd (cs := #[.int .i64 c, .int .i64 d]) (t := 23) ?hr ?_; (case hd => rfl); (case hg => rfl); (case hr => first | (go_simp; done) | (go_simp; rfl)); intro g2 hg_ W2 hbox_ hb_; have GEg2 := Aside0.mk ((by rw [hg_]; exact (below_size HB.out)) : w.heap.size ≤ g2); have NBg1_g2 : g1 ≠ g2 := (by rw [hg_]; exact Nat.ne_of_lt (blk_lt BKg1.out)); have NBg2_g1 : g2 ≠ g1 := Ne.symm NBg1_g2; clear hg_; have n_ := Aside0.mk (blk_below BKg1.out hb_); clear BKg1; have BKg1 := n_; clear n_; clear hcg1_0 hfg1_0; clear hcg1_1 hfg1_1; have n_ := Aside0.mk (below_step HB.out hb_); clear HB; have HB := n_; clear n_; have BKg2 := Aside0.mk hbox_; clear hbox_ hb_; have hcg1_0 : W2.cell? ⟨g1, 0, none⟩ = some (.int .i64 a) := (blk_cell BKg1.out 0).trans rfl; have hfg1_0 := blk_frozen BKg1.out 0; have hcg1_1 : W2.cell? ⟨g1, 1, none⟩ = some (.int .i64 b) := (blk_cell BKg1.out 1).trans rfl; have hfg1_1 := blk_frozen BKg1.out 1; have hcg2_0 : W2.cell? ⟨g2, 0, none⟩ = some (.int .i64 c) := (blk_cell BKg2.out 0).trans rfl; have hfg2_0 := blk_frozen BKg2.out 0; have hcg2_1 : W2.cell? ⟨g2, 1, none⟩ = some (.int .i64 d) := (blk_cell BKg2.out 1).trans rfl; have hfg2_1 := blk_frozen BKg2.out 1))
  try simp only [Act.put, List.setIfInBounds_toArray, List.set_cons_zero, List.set_cons_succ]
  have hqg1_0 : ∀ u : Aft W2, u.w.cell? ⟨g1, 0, none⟩ = some (.int .i64 a) := fun u => (blk_cell (blk_below BKg1.out u.below) 0).trans rfl
  have hqg1_1 : ∀ u : Aft W2, u.w.cell? ⟨g1, 1, none⟩ = some (.int .i64 b) := fun u => (blk_cell (blk_below BKg1.out u.below) 1).trans rfl
  have hqg2_0 : ∀ u : Aft W2, u.w.cell? ⟨g2, 0, none⟩ = some (.int .i64 c) := fun u => (blk_cell (blk_below BKg2.out u.below) 0).trans rfl
  have hqg2_1 : ∀ u : Aft W2, u.w.cell? ⟨g2, 1, none⟩ = some (.int .i64 d) := fun u => (blk_cell (blk_below BKg2.out u.below) 1).trans rfl
  refine wp_region_aft (by kernel_rfl) (by kernel_rfl) ?_
  repeat (go_big_quiet_step (fail))
  go_big_quiet_step (refine aft_call (fun w => rmul_calls a c w ha hc))
  repeat (go_big_quiet_step (fail))
  go_big_quiet_step (refine aft_call (fun w => rmul_calls b d w hb hd))
  repeat (go_big_quiet_step (fail))
  go_big_quiet_step (refine aft_quiet (fun w => radd_calls _ _ w (fmul_I64 _ _) (fmul_I64 _ _)))
  repeat (go_big_quiet_step (fail))
  refine wpQuiet_nil ?_
  intro W3 hb_
  clear hqg1_0
  clear hqg1_1
  clear hqg2_0
  clear hqg2_1
  have n_ := Aside0.mk (blk_below BKg1.out hb_); clear BKg1; have BKg1 := n_; clear n_
  clear hcg1_0 hfg1_0
  clear hcg1_1 hfg1_1
  have n_ := Aside0.mk (blk_below BKg2.out hb_); clear BKg2; have BKg2 := n_; clear n_
  clear hcg2_0 hfg2_0
  clear hcg2_1 hfg2_1
  have n_ := Aside0.mk (below_step HB.out hb_); clear HB; have HB := n_; clear n_
  clear hb_
  have hcg1_0 : W3.cell? ⟨g1, 0, none⟩ = some (.int .i64 a) := (blk_cell BKg1.out 0).trans rfl
  have hfg1_0 := blk_frozen BKg1.out 0
  have hcg1_1 : W3.cell? ⟨g1, 1, none⟩ = some (.int .i64 b) := (blk_cell BKg1.out 1).trans rfl
  have hfg1_1 := blk_frozen BKg1.out 1
  have hcg2_0 : W3.cell? ⟨g2, 0, none⟩ = some (.int .i64 c) := (blk_cell BKg2.out 0).trans rfl
  have hfg2_0 := blk_frozen BKg2.out 0
  have hcg2_1 : W3.cell? ⟨g2, 1, none⟩ = some (.int .i64 d) := (blk_cell BKg2.out 1).trans rfl
  have hfg2_1 := blk_frozen BKg2.out 1
  go_wp2
  go_ret
  exact ⟨rfl, (by repeat (first | (with_reducible first | exact HB.out | apply below_alloc | apply pw_below_drewN | apply below_drew1) | exact HB.out))⟩
end Go.Proofs.Ytjknihjdhccanaa
