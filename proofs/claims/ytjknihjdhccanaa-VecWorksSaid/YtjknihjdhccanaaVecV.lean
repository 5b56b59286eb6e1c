/- The reference's Long. -/
import Derived.Test.YtjknihjdhccanaaVecU
namespace Go.Proofs.Ytjknihjdhccanaa
open Go.RowKit Go.Proofs.YtjknihjdhccanaaW.PrintWords Go.Proofs.YtjknihjdhccanaaW.PrintLast Go.Proofs.YtjknihjdhccanaaW.PrintMore
set_option linter.unusedVariables false
set_option linter.unusedSimpArgs false

theorem sq_rep {n : Int} (hn : I64 n) : Rep (cdig (n * n)) (n * n) ∧ n * n ≤ 85070591730234615865843651857942052864 := by
  have h0 := sq_nonneg n
  have h1 := sq_bound (a := n) (m := 9223372036854775808) (by have := hn.1; omega) (by have := hn.2; omega)
  exact ⟨rep_cdig h0 (by omega), by omega⟩
theorem cmp_le {a b : Int} (h : a ≤ b) : cmpI a b ≤ 0 := by unfold cmpI; (repeat' split) <;> omega
theorem cmp_gt {a b : Int} (h : b < a) : 0 < cmpI a b := by unfold cmpI; (repeat' split) <;> omega
theorem shl_two (k : Nat) (h : k ≤ 62) : two k ≤ 4611686018427387904 := by
  have h62 : two 62 = 4611686018427387904 := by decide
  have : two k ≤ two 62 := by unfold two; have := Nat.pow_le_pow_right (n := 2) (by omega) h; omega
  omega
set_option maxHeartbeats 8000000 in
set_option maxRecDepth 100000 in
theorem rlong_calls (a b : Int) (w : World) (ha : I64 a) (hb : I64 b) :
    Calls Try.prog 25 #[.agg #[.int .i64 a, .int .i64 b]] w
      fun e w' => e = .returned (.int .i64 (rootOf (vecS a b))) ∧ Below w.heap.size w w' := by
  have HB := Aside0.mk (Below.refl w.heap.size w)
  obtain ⟨r1, r2⟩ := sq_rep ha; obtain ⟨q1, q2⟩ := sq_rep hb
  have hS : a * a + b * b = vecS a b := (vecS_eq a b).symm
  have r3 : Rep (cdig (a * a + b * b)) (a * a + b * b) := rep_cdig (by have := r1.nonneg; have := q1.nonneg; omega) (by omega)
  have hAB : a * a + b * b < 340282366920938463463374607431768211456 := by omega
  have HS := Lib.hid hS; clear hS
  go_enter Try.func25, Try.ntmps25
  go_wp2_with (first | ((with_reducible refine gate_dst (N := 1) rfl ?_); refine box_event ?hg (N := 1) ?hd (cs := #[.int .i64 a, .int .i64 b]) (t := 23) ?hr ?_; (case hd => rfl); (case hg => rfl); (case hr => first | (go_simp; done) | (go_simp; rfl)); intro g1 hg_ W1 hbox_ hb_; have GEg1 := Aside0.mk ((by rw [hg_]; exact (below_size HB.out)) : w.heap.size ≤ g1); clear hg_; have n_ := Aside0.mk (below_step HB.out hb_); clear HB; have HB := n_; clear n_; have BKg1 := Aside0.mk hbox_; clear hbox_ hb_; have hcg1_0 : W1.cell? ⟨g1, 0, none⟩ = some (.int .i64 a) := (blk_cell BKg1.out 0).trans rfl; have hfg1_0 := blk_frozen BKg1.out 0; have hcg1_1 : W1.cell? ⟨g1, 1, none⟩ = some (.int .i64 b) := (blk_cell BKg1.out 1).trans rfl; have hfg1_1 := blk_frozen BKg1.out 1))
  try simp only [Act.put, List.setIfInBounds_toArray, List.set_cons_zero, List.set_cons_succ]
  go_region_held3 (fun w' => w'.cell? ⟨g1, 0, none⟩ = some (.int .i64 a) ∧ w'.cell? ⟨g1, 1, none⟩ = some (.int .i64 b)) (go_keep) (first | (go_at_call 45; (first | ((with_reducible show Calls _ _ _ (World.alloc W_ (.cells #[.bool false, .int .i64 0, .int .i64 0, .int .i64 0, .int .i64 0, .int .i64 0, .int .i64 0, .int .i64 0, .int .i64 0] 52)) _); have GEgS := Aside0.mk (HB.out.size : w.heap.size ≤ (W_).heap.size); have NBg1_gS : g1 ≠ (W_).heap.size := Nat.ne_of_lt (blk_lt BKg1.out); have BKgS : Aside0 ((World.alloc W_ (.cells #[.bool false, .int .i64 0, .int .i64 0, .int .i64 0, .int .i64 0, .int .i64 0, .int .i64 0, .int .i64 0, .int .i64 0] 52)).heap[(W_).heap.size]? = some (.cells #[.bool false, .int .i64 0, .int .i64 0, .int .i64 0, .int .i64 0, .int .i64 0, .int .i64 0, .int .i64 0, .int .i64 0] 52)) := ⟨(blk_new W_ (.cells #[.bool false, .int .i64 0, .int .i64 0, .int .i64 0, .int .i64 0, .int .i64 0, .int .i64 0, .int .i64 0, .int .i64 0] 52))⟩; have n_ : Aside0 ((World.alloc W_ (.cells #[.bool false, .int .i64 0, .int .i64 0, .int .i64 0, .int .i64 0, .int .i64 0, .int .i64 0, .int .i64 0, .int .i64 0] 52)).heap[g1]? = some (.cells #[.int .i64 a, .int .i64 b] 23 (0, 0))) := ⟨(blk_alloc BKg1.out _)⟩; clear BKg1; have BKg1 := n_; clear n_; have n_ : Aside0 (Below w.heap.size w (World.alloc W_ (.cells #[.bool false, .int .i64 0, .int .i64 0, .int .i64 0, .int .i64 0, .int .i64 0, .int .i64 0, .int .i64 0, .int .i64 0] 52))) := ⟨(below_alloc HB.out _)⟩; clear HB; have HB := n_; clear n_; (try clear hcg1_0); (try clear hfg1_0); (try clear hcg1_1); (try clear hfg1_1); generalize (World.alloc W_ (.cells #[.bool false, .int .i64 0, .int .i64 0, .int .i64 0, .int .i64 0, .int .i64 0, .int .i64 0, .int .i64 0, .int .i64 0] 52)) = WA at *; generalize (W_).heap.size = gS at *; have NBgS_g1 := Ne.symm NBg1_gS) | ((with_reducible show Calls _ _ _ (World.drew (World.alloc W1 (.cells #[.bool false, .int .i64 0, .int .i64 0, .int .i64 0, .int .i64 0, .int .i64 0, .int .i64 0, .int .i64 0, .int .i64 0] 52))) _); have GEgS := Aside0.mk (HB.out.size : w.heap.size ≤ (W1).heap.size); have NBg1_gS : g1 ≠ (W1).heap.size := Nat.ne_of_lt (blk_lt BKg1.out); have BKgS : Aside0 ((World.drew (World.alloc W1 (.cells #[.bool false, .int .i64 0, .int .i64 0, .int .i64 0, .int .i64 0, .int .i64 0, .int .i64 0, .int .i64 0, .int .i64 0] 52))).heap[(W1).heap.size]? = some (.cells #[.bool false, .int .i64 0, .int .i64 0, .int .i64 0, .int .i64 0, .int .i64 0, .int .i64 0, .int .i64 0, .int .i64 0] 52)) := ⟨blk_drew (blk_new W1 (.cells #[.bool false, .int .i64 0, .int .i64 0, .int .i64 0, .int .i64 0, .int .i64 0, .int .i64 0, .int .i64 0, .int .i64 0] 52))⟩; have n_ : Aside0 ((World.drew (World.alloc W1 (.cells #[.bool false, .int .i64 0, .int .i64 0, .int .i64 0, .int .i64 0, .int .i64 0, .int .i64 0, .int .i64 0, .int .i64 0] 52))).heap[g1]? = some (.cells #[.int .i64 a, .int .i64 b] 23 (0, 0))) := ⟨blk_drew (blk_alloc BKg1.out _)⟩; clear BKg1; have BKg1 := n_; clear n_; have n_ : Aside0 (Below w.heap.size w (World.drew (World.alloc W1 (.cells #[.bool false, .int .i64 0, .int .i64 0, .int .i64 0, .int .i64 0, .int .i64 0, .int .i64 0, .int .i64 0, .int .i64 0] 52)))) := ⟨below_drew1 (below_alloc HB.out _)⟩; clear HB; have HB := n_; clear n_; (try clear hcg1_0); (try clear hfg1_0); (try clear hcg1_1); (try clear hfg1_1); generalize (World.drew (World.alloc W1 (.cells #[.bool false, .int .i64 0, .int .i64 0, .int .i64 0, .int .i64 0, .int .i64 0, .int .i64 0, .int .i64 0, .int .i64 0] 52))) = WA at *; generalize (W1).heap.size = gS at *; have NBgS_g1 := Ne.symm NBg1_gS) | skip); (with_reducible refine (square_calls _ _ (by assumption)).mono ?_); rintro e_ W_ ⟨rfl, hb_⟩; have n_ := Aside0.mk (blk_below (g := g1) (show _ from by first | exact BKg1.out | exact blk_drew BKg1.out) hb_); clear BKg1; have BKg1 := n_; clear n_; (try clear hcg1_0); (try clear hfg1_0); (try clear hcg1_1); (try clear hfg1_1); have n_ := Aside0.mk (below_step (by first | exact HB.out | exact below_drew1 HB.out) hb_); clear HB; have HB := n_; clear n_; (try (have n_ := Aside0.mk (blk_below BKgS.out hb_); clear BKgS; have BKgS := n_; clear n_)); clear hb_; have hcg1_0 : W_.cell? ⟨g1, 0, none⟩ = some (.int .i64 a) := (blk_cell BKg1.out 0).trans rfl; have hfg1_0 := blk_frozen BKg1.out 0; have hcg1_1 : W_.cell? ⟨g1, 1, none⟩ = some (.int .i64 b) := (blk_cell BKg1.out 1).trans rfl; have hfg1_1 := blk_frozen BKg1.out 1; (try clear hcgS_0); (try clear hfgS_0); (try clear hcgS_1); (try clear hfgS_1); (try clear hcgS_2); (try clear hfgS_2); (try clear hcgS_3); (try clear hfgS_3); (try clear hcgS_4); (try clear hfgS_4); (try clear hcgS_5); (try clear hfgS_5); (try clear hcgS_6); (try clear hfgS_6); (try clear hcgS_7); (try clear hfgS_7); (try clear hcgS_8); (try clear hfgS_8); (try (have hcgS_0 : W_.cell? ⟨gS, 0, none⟩ = some (.bool false) := (blk_cell BKgS.out 0).trans rfl; have hfgS_0 := blk_frozen BKgS.out 0; have hcgS_1 : W_.cell? ⟨gS, 1, none⟩ = some (.int .i64 0) := (blk_cell BKgS.out 1).trans rfl; have hfgS_1 := blk_frozen BKgS.out 1; have hcgS_2 : W_.cell? ⟨gS, 2, none⟩ = some (.int .i64 0) := (blk_cell BKgS.out 2).trans rfl; have hfgS_2 := blk_frozen BKgS.out 2; have hcgS_3 : W_.cell? ⟨gS, 3, none⟩ = some (.int .i64 0) := (blk_cell BKgS.out 3).trans rfl; have hfgS_3 := blk_frozen BKgS.out 3; have hcgS_4 : W_.cell? ⟨gS, 4, none⟩ = some (.int .i64 0) := (blk_cell BKgS.out 4).trans rfl; have hfgS_4 := blk_frozen BKgS.out 4; have hcgS_5 : W_.cell? ⟨gS, 5, none⟩ = some (.int .i64 0) := (blk_cell BKgS.out 5).trans rfl; have hfgS_5 := blk_frozen BKgS.out 5; have hcgS_6 : W_.cell? ⟨gS, 6, none⟩ = some (.int .i64 0) := (blk_cell BKgS.out 6).trans rfl; have hfgS_6 := blk_frozen BKgS.out 6; have hcgS_7 : W_.cell? ⟨gS, 7, none⟩ = some (.int .i64 0) := (blk_cell BKgS.out 7).trans rfl; have hfgS_7 := blk_frozen BKgS.out 7; have hcgS_8 : W_.cell? ⟨gS, 8, none⟩ = some (.int .i64 0) := (blk_cell BKgS.out 8).trans rfl; have hfgS_8 := blk_frozen BKgS.out 8))) | (go_at_call 44; (first | ((with_reducible show Calls _ _ _ (World.alloc W_ (.cells #[.bool false, .int .i64 0, .int .i64 0, .int .i64 0, .int .i64 0, .int .i64 0, .int .i64 0, .int .i64 0, .int .i64 0] 52)) _); have GEgS := Aside0.mk (HB.out.size : w.heap.size ≤ (W_).heap.size); have NBg1_gS : g1 ≠ (W_).heap.size := Nat.ne_of_lt (blk_lt BKg1.out); have BKgS : Aside0 ((World.alloc W_ (.cells #[.bool false, .int .i64 0, .int .i64 0, .int .i64 0, .int .i64 0, .int .i64 0, .int .i64 0, .int .i64 0, .int .i64 0] 52)).heap[(W_).heap.size]? = some (.cells #[.bool false, .int .i64 0, .int .i64 0, .int .i64 0, .int .i64 0, .int .i64 0, .int .i64 0, .int .i64 0, .int .i64 0] 52)) := ⟨(blk_new W_ (.cells #[.bool false, .int .i64 0, .int .i64 0, .int .i64 0, .int .i64 0, .int .i64 0, .int .i64 0, .int .i64 0, .int .i64 0] 52))⟩; have n_ : Aside0 ((World.alloc W_ (.cells #[.bool false, .int .i64 0, .int .i64 0, .int .i64 0, .int .i64 0, .int .i64 0, .int .i64 0, .int .i64 0, .int .i64 0] 52)).heap[g1]? = some (.cells #[.int .i64 a, .int .i64 b] 23 (0, 0))) := ⟨(blk_alloc BKg1.out _)⟩; clear BKg1; have BKg1 := n_; clear n_; have n_ : Aside0 (Below w.heap.size w (World.alloc W_ (.cells #[.bool false, .int .i64 0, .int .i64 0, .int .i64 0, .int .i64 0, .int .i64 0, .int .i64 0, .int .i64 0, .int .i64 0] 52))) := ⟨(below_alloc HB.out _)⟩; clear HB; have HB := n_; clear n_; (try clear hcg1_0); (try clear hfg1_0); (try clear hcg1_1); (try clear hfg1_1); generalize (World.alloc W_ (.cells #[.bool false, .int .i64 0, .int .i64 0, .int .i64 0, .int .i64 0, .int .i64 0, .int .i64 0, .int .i64 0, .int .i64 0] 52)) = WA at *; generalize (W_).heap.size = gS at *; have NBgS_g1 := Ne.symm NBg1_gS) | ((with_reducible show Calls _ _ _ (World.drew (World.alloc W1 (.cells #[.bool false, .int .i64 0, .int .i64 0, .int .i64 0, .int .i64 0, .int .i64 0, .int .i64 0, .int .i64 0, .int .i64 0] 52))) _); have GEgS := Aside0.mk (HB.out.size : w.heap.size ≤ (W1).heap.size); have NBg1_gS : g1 ≠ (W1).heap.size := Nat.ne_of_lt (blk_lt BKg1.out); have BKgS : Aside0 ((World.drew (World.alloc W1 (.cells #[.bool false, .int .i64 0, .int .i64 0, .int .i64 0, .int .i64 0, .int .i64 0, .int .i64 0, .int .i64 0, .int .i64 0] 52))).heap[(W1).heap.size]? = some (.cells #[.bool false, .int .i64 0, .int .i64 0, .int .i64 0, .int .i64 0, .int .i64 0, .int .i64 0, .int .i64 0, .int .i64 0] 52)) := ⟨blk_drew (blk_new W1 (.cells #[.bool false, .int .i64 0, .int .i64 0, .int .i64 0, .int .i64 0, .int .i64 0, .int .i64 0, .int .i64 0, .int .i64 0] 52))⟩; have n_ : Aside0 ((World.drew (World.alloc W1 (.cells #[.bool false, .int .i64 0, .int .i64 0, .int .i64 0, .int .i64 0, .int .i64 0, .int .i64 0, .int .i64 0, .int .i64 0] 52))).heap[g1]? = some (.cells #[.int .i64 a, .int .i64 b] 23 (0, 0))) := ⟨blk_drew (blk_alloc BKg1.out _)⟩; clear BKg1; have BKg1 := n_; clear n_; have n_ : Aside0 (Below w.heap.size w (World.drew (World.alloc W1 (.cells #[.bool false, .int .i64 0, .int .i64 0, .int .i64 0, .int .i64 0, .int .i64 0, .int .i64 0, .int .i64 0, .int .i64 0] 52)))) := ⟨below_drew1 (below_alloc HB.out _)⟩; clear HB; have HB := n_; clear n_; (try clear hcg1_0); (try clear hfg1_0); (try clear hcg1_1); (try clear hfg1_1); generalize (World.drew (World.alloc W1 (.cells #[.bool false, .int .i64 0, .int .i64 0, .int .i64 0, .int .i64 0, .int .i64 0, .int .i64 0, .int .i64 0, .int .i64 0] 52))) = WA at *; generalize (W1).heap.size = gS at *; have NBgS_g1 := Ne.symm NBg1_gS) | skip); (with_reducible refine (plus_ex false false (a * a) (b * b) _ r1 q1 hAB).mono ?_); rintro e_ W_ ⟨rfl, hb_⟩; have n_ := Aside0.mk (blk_below (g := g1) (show _ from by first | exact BKg1.out | exact blk_drew BKg1.out) hb_); clear BKg1; have BKg1 := n_; clear n_; (try clear hcg1_0); (try clear hfg1_0); (try clear hcg1_1); (try clear hfg1_1); have n_ := Aside0.mk (below_step (by first | exact HB.out | exact below_drew1 HB.out) hb_); clear HB; have HB := n_; clear n_; (try (have n_ := Aside0.mk (blk_below BKgS.out hb_); clear BKgS; have BKgS := n_; clear n_)); clear hb_; have hcg1_0 : W_.cell? ⟨g1, 0, none⟩ = some (.int .i64 a) := (blk_cell BKg1.out 0).trans rfl; have hfg1_0 := blk_frozen BKg1.out 0; have hcg1_1 : W_.cell? ⟨g1, 1, none⟩ = some (.int .i64 b) := (blk_cell BKg1.out 1).trans rfl; have hfg1_1 := blk_frozen BKg1.out 1; (try clear hcgS_0); (try clear hfgS_0); (try clear hcgS_1); (try clear hfgS_1); (try clear hcgS_2); (try clear hfgS_2); (try clear hcgS_3); (try clear hfgS_3); (try clear hcgS_4); (try clear hfgS_4); (try clear hcgS_5); (try clear hfgS_5); (try clear hcgS_6); (try clear hfgS_6); (try clear hcgS_7); (try clear hfgS_7); (try clear hcgS_8); (try clear hfgS_8); (try (have hcgS_0 : W_.cell? ⟨gS, 0, none⟩ = some (.bool false) := (blk_cell BKgS.out 0).trans rfl; have hfgS_0 := blk_frozen BKgS.out 0; have hcgS_1 : W_.cell? ⟨gS, 1, none⟩ = some (.int .i64 0) := (blk_cell BKgS.out 1).trans rfl; have hfgS_1 := blk_frozen BKgS.out 1; have hcgS_2 : W_.cell? ⟨gS, 2, none⟩ = some (.int .i64 0) := (blk_cell BKgS.out 2).trans rfl; have hfgS_2 := blk_frozen BKgS.out 2; have hcgS_3 : W_.cell? ⟨gS, 3, none⟩ = some (.int .i64 0) := (blk_cell BKgS.out 3).trans rfl; have hfgS_3 := blk_frozen BKgS.out 3; have hcgS_4 : W_.cell? ⟨gS, 4, none⟩ = some (.int .i64 0) := (blk_cell BKgS.out 4).trans rfl; have hfgS_4 := blk_frozen BKgS.out 4; have hcgS_5 : W_.cell? ⟨gS, 5, none⟩ = some (.int .i64 0) := (blk_cell BKgS.out 5).trans rfl; have hfgS_5 := blk_frozen BKgS.out 5; have hcgS_6 : W_.cell? ⟨gS, 6, none⟩ = some (.int .i64 0) := (blk_cell BKgS.out 6).trans rfl; have hfgS_6 := blk_frozen BKgS.out 6; have hcgS_7 : W_.cell? ⟨gS, 7, none⟩ = some (.int .i64 0) := (blk_cell BKgS.out 7).trans rfl; have hfgS_7 := blk_frozen BKgS.out 7; have hcgS_8 : W_.cell? ⟨gS, 8, none⟩ = some (.int .i64 0) := (blk_cell BKgS.out 8).trans rfl; have hfgS_8 := blk_frozen BKgS.out 8))))
  ·
    have GEgS := Aside0.mk (HB.out.size : w.heap.size ≤ W_.heap.size); have NBg1_gS : g1 ≠ W_.heap.size := Nat.ne_of_lt (blk_lt BKg1.out)
    have BKgS : Aside0 ((World.alloc W_ (.cells #[.bool false, .int .i64 (cdig (a * a + b * b) 0), .int .i64 (cdig (a * a + b * b) 1), .int .i64 (cdig (a * a + b * b) 2), .int .i64 (cdig (a * a + b * b) 3), .int .i64 (cdig (a * a + b * b) 4), .int .i64 (cdig (a * a + b * b) 5), .int .i64 (cdig (a * a + b * b) 6), .int .i64 (cdig (a * a + b * b) 7)] 52)).heap[W_.heap.size]? = some (.cells #[.bool false, .int .i64 (cdig (a * a + b * b) 0), .int .i64 (cdig (a * a + b * b) 1), .int .i64 (cdig (a * a + b * b) 2), .int .i64 (cdig (a * a + b * b) 3), .int .i64 (cdig (a * a + b * b) 4), .int .i64 (cdig (a * a + b * b) 5), .int .i64 (cdig (a * a + b * b) 6), .int .i64 (cdig (a * a + b * b) 7)] 52 (0, 0))) := ⟨blk_new _ _⟩
    have n_ : Aside0 ((World.alloc W_ (.cells #[.bool false, .int .i64 (cdig (a * a + b * b) 0), .int .i64 (cdig (a * a + b * b) 1), .int .i64 (cdig (a * a + b * b) 2), .int .i64 (cdig (a * a + b * b) 3), .int .i64 (cdig (a * a + b * b) 4), .int .i64 (cdig (a * a + b * b) 5), .int .i64 (cdig (a * a + b * b) 6), .int .i64 (cdig (a * a + b * b) 7)] 52)).heap[g1]? = some (.cells #[.int .i64 a, .int .i64 b] 23 (0, 0))) := ⟨blk_alloc BKg1.out _⟩; clear BKg1; have BKg1 := n_; clear n_
    have n_ : Aside0 (Below w.heap.size w (World.alloc W_ (.cells #[.bool false, .int .i64 (cdig (a * a + b * b) 0), .int .i64 (cdig (a * a + b * b) 1), .int .i64 (cdig (a * a + b * b) 2), .int .i64 (cdig (a * a + b * b) 3), .int .i64 (cdig (a * a + b * b) 4), .int .i64 (cdig (a * a + b * b) 5), .int .i64 (cdig (a * a + b * b) 6), .int .i64 (cdig (a * a + b * b) 7)] 52))) := ⟨below_alloc HB.out _⟩; clear HB; have HB := n_; clear n_; clear hcg1_0 hfg1_0 hcg1_1 hfg1_1
    generalize (World.alloc W_ (.cells #[.bool false, .int .i64 (cdig (a * a + b * b) 0), .int .i64 (cdig (a * a + b * b) 1), .int .i64 (cdig (a * a + b * b) 2), .int .i64 (cdig (a * a + b * b) 3), .int .i64 (cdig (a * a + b * b) 4), .int .i64 (cdig (a * a + b * b) 5), .int .i64 (cdig (a * a + b * b) 6), .int .i64 (cdig (a * a + b * b) 7)] 52)) = WZ at *
    generalize W_.heap.size = gS at *
    have NBgS_g1 := Ne.symm NBg1_gS
    have hcg1_0 : WZ.cell? ⟨g1, 0, none⟩ = some (.int .i64 a) := (blk_cell BKg1.out 0).trans rfl
    have hfg1_0 := blk_frozen BKg1.out 0
    have hcg1_1 : WZ.cell? ⟨g1, 1, none⟩ = some (.int .i64 b) := (blk_cell BKg1.out 1).trans rfl
    have hfg1_1 := blk_frozen BKg1.out 1
    have hcgS_0 : WZ.cell? ⟨gS, 0, none⟩ = some (.bool false) := (blk_cell BKgS.out 0).trans rfl
    have hfgS_0 := blk_frozen BKgS.out 0
    have hcgS_1 : WZ.cell? ⟨gS, 1, none⟩ = some (.int .i64 (cdig (a * a + b * b) 0)) := (blk_cell BKgS.out 1).trans rfl
    have hfgS_1 := blk_frozen BKgS.out 1
    have hcgS_2 : WZ.cell? ⟨gS, 2, none⟩ = some (.int .i64 (cdig (a * a + b * b) 1)) := (blk_cell BKgS.out 2).trans rfl
    have hfgS_2 := blk_frozen BKgS.out 2
    have hcgS_3 : WZ.cell? ⟨gS, 3, none⟩ = some (.int .i64 (cdig (a * a + b * b) 2)) := (blk_cell BKgS.out 3).trans rfl
    have hfgS_3 := blk_frozen BKgS.out 3
    have hcgS_4 : WZ.cell? ⟨gS, 4, none⟩ = some (.int .i64 (cdig (a * a + b * b) 3)) := (blk_cell BKgS.out 4).trans rfl
    have hfgS_4 := blk_frozen BKgS.out 4
    have hcgS_5 : WZ.cell? ⟨gS, 5, none⟩ = some (.int .i64 (cdig (a * a + b * b) 4)) := (blk_cell BKgS.out 5).trans rfl
    have hfgS_5 := blk_frozen BKgS.out 5
    have hcgS_6 : WZ.cell? ⟨gS, 6, none⟩ = some (.int .i64 (cdig (a * a + b * b) 5)) := (blk_cell BKgS.out 6).trans rfl
    have hfgS_6 := blk_frozen BKgS.out 6
    have hcgS_7 : WZ.cell? ⟨gS, 7, none⟩ = some (.int .i64 (cdig (a * a + b * b) 6)) := (blk_cell BKgS.out 7).trans rfl
    have hfgS_7 := blk_frozen BKgS.out 7
    have hcgS_8 : WZ.cell? ⟨gS, 8, none⟩ = some (.int .i64 (cdig (a * a + b * b) 7)) := (blk_cell BKgS.out 8).trans rfl
    have hfgS_8 := blk_frozen BKgS.out 8
    go_wp2
    go_loopw [4, 5] (fun vn vi wr => ∃ (j : Nat) (N : Int), vn = .int .i64 N ∧ vi = .int .i64 ((j : Int) - 1) ∧ Aside0 (j ≤ 63) ∧ Aside0 (LRel 63 (a * a + b * b) j N) ∧ Aside0 (wr.heap[gS]? = some (.cells #[.bool false, .int .i64 (cdig (a * a + b * b) 0), .int .i64 (cdig (a * a + b * b) 1), .int .i64 (cdig (a * a + b * b) 2), .int .i64 (cdig (a * a + b * b) 3), .int .i64 (cdig (a * a + b * b) 4), .int .i64 (cdig (a * a + b * b) 5), .int .i64 (cdig (a * a + b * b) 6), .int .i64 (cdig (a * a + b * b) 7)] 52 (0, 0))) ∧ Aside0 (Below w.heap.size w wr)) (fun _ vi _ => (intOf vi + 1).toNat)
    case atStart => exact ⟨63, 0, rfl, rfl, ⟨by omega⟩, ⟨LRel.start 63 r3.nonneg⟩, BKgS, HB⟩
    case round =>
      clear BKg1 BKgS HB hcg1_0 hfg1_0 hcg1_1 hfg1_1 hcgS_0 hfgS_0 hcgS_1 hfgS_1 hcgS_2 hfgS_2 hcgS_3 hfgS_3 hcgS_4 hfgS_4 hcgS_5 hfgS_5 hcgS_6 hfgS_6 hcgS_7 hfgS_7 hcgS_8 hfgS_8
      obtain ⟨j, N, rfl, rfl, Hj, HL, BKgS, HB⟩ := hrel
      have hj := Hj.out; have hN0 := HL.out.pos
      cases j with
      | zero =>
        rw [show (((0 : Nat) : Int) - 1) = -1 from rfl]
        go_wp2
        go_ret
        exact ⟨ret_int (by rw [← HS.out]; exact rootOf_eq HL.out), HB.out⟩
      | succ k =>
        rw [show (((k + 1 : Nat) : Int) - 1) = (k : Int) from by omega]
        have ht := HL.out.top; have t1 := two_succ k; have t2 := two_pos k; have t3 := shl_two k (by omega)
        have h63 : two 63 = 9223372036854775808 := by decide
        obtain ⟨V, hV⟩ : ∃ V, V = N + two k := ⟨_, rfl⟩
        have hVI : I64 V := ⟨by omega, by omega⟩
        have hN1 : N + two k ≤ 9223372036854775807 := by omega
        clear ht t1 h63
        have hw : wrap64 (N + wrap64 (2 ^ k)) = V := by
          have e : (2 : Int) ^ k = two k := by unfold two; simp
          rw [e, hV]; unfold wrap64; omega
        have HW := Lib.hid hw; have HV := Lib.hid hV; clear hw hV
        obtain ⟨rV, _⟩ := sq_rep hVI
        go_wp2
        rw [HW.out]
        have hcase : (V * V ≤ a * a + b * b ∧ cmpI (V * V) (a * a + b * b) ≤ 0) ∨ (a * a + b * b < V * V ∧ 0 < cmpI (V * V) (a * a + b * b)) := by
          rcases Int.lt_or_le (a * a + b * b) (V * V) with c | c
          · exact .inr ⟨c, cmp_gt c⟩
          · exact .inl ⟨c, cmp_le c⟩
        have hq0 : ∀ u : Aft wr, u.w.cell? ⟨gS, 0, none⟩ = some (.bool false) := fun u => (blk_cell (blk_below BKgS.out u.below) 0).trans rfl
        have hq1 : ∀ u : Aft wr, u.w.cell? ⟨gS, 1, none⟩ = some (.int .i64 (cdig (a * a + b * b) 0)) := fun u => (blk_cell (blk_below BKgS.out u.below) 1).trans rfl
        have hq2 : ∀ u : Aft wr, u.w.cell? ⟨gS, 2, none⟩ = some (.int .i64 (cdig (a * a + b * b) 1)) := fun u => (blk_cell (blk_below BKgS.out u.below) 2).trans rfl
        have hq3 : ∀ u : Aft wr, u.w.cell? ⟨gS, 3, none⟩ = some (.int .i64 (cdig (a * a + b * b) 2)) := fun u => (blk_cell (blk_below BKgS.out u.below) 3).trans rfl
        have hq4 : ∀ u : Aft wr, u.w.cell? ⟨gS, 4, none⟩ = some (.int .i64 (cdig (a * a + b * b) 3)) := fun u => (blk_cell (blk_below BKgS.out u.below) 4).trans rfl
        have hq5 : ∀ u : Aft wr, u.w.cell? ⟨gS, 5, none⟩ = some (.int .i64 (cdig (a * a + b * b) 4)) := fun u => (blk_cell (blk_below BKgS.out u.below) 5).trans rfl
        have hq6 : ∀ u : Aft wr, u.w.cell? ⟨gS, 6, none⟩ = some (.int .i64 (cdig (a * a + b * b) 5)) := fun u => (blk_cell (blk_below BKgS.out u.below) 6).trans rfl
        have hq7 : ∀ u : Aft wr, u.w.cell? ⟨gS, 7, none⟩ = some (.int .i64 (cdig (a * a + b * b) 6)) := fun u => (blk_cell (blk_below BKgS.out u.below) 7).trans rfl
        have hq8 : ∀ u : Aft wr, u.w.cell? ⟨gS, 8, none⟩ = some (.int .i64 (cdig (a * a + b * b) 7)) := fun u => (blk_cell (blk_below BKgS.out u.below) 8).trans rfl
        refine wp_region_aft (by kernel_rfl) (by kernel_rfl) ?_
        repeat (go_big_quiet_step (fail))
        go_big_quiet_step (refine aft_call (fun w => square_calls V w hVI))
        repeat (go_big_quiet_step (fail))
        go_big_quiet_step (refine aft_call (fun w => compare_ex false false (V * V) (a * a + b * b) w rV r3))
        repeat (go_big_quiet_step (fail))
        refine wpQuiet_nil ?_
        intro WN hb_
        clear hq0 hq1 hq2 hq3 hq4 hq5 hq6 hq7 hq8
        have n_ := Aside0.mk (blk_below BKgS.out hb_); clear BKgS; have BKgS := n_; clear n_
        have n_ := Aside0.mk (below_step HB.out hb_); clear HB; have HB := n_; clear n_ hb_
        rcases hcase with ⟨c1, c2⟩ | ⟨c1, c2⟩
        · go_wp2
          exact ⟨⟨k, V, rfl, rfl, ⟨by omega⟩, ⟨by have := HL.out.take (by rw [← HV.out]; exact c1); rw [HV.out]; exact this⟩, BKgS, HB⟩, by simp [intOf]⟩
        · go_wp2
          exact ⟨⟨k, N, rfl, rfl, ⟨by omega⟩, ⟨HL.out.leave (by rw [← HV.out]; exact c1)⟩, BKgS, HB⟩, by simp [intOf]⟩
  ·
    have n_ : Aside0 ((((((((((W_.setCell ⟨gS, 0, none⟩ (.bool false)).setCell ⟨gS, 1, none⟩ (.int .i64 (cdig (a * a + b * b) 0))).setCell ⟨gS, 2, none⟩ (.int .i64 (cdig (a * a + b * b) 1))).setCell ⟨gS, 3, none⟩ (.int .i64 (cdig (a * a + b * b) 2))).setCell ⟨gS, 4, none⟩ (.int .i64 (cdig (a * a + b * b) 3))).setCell ⟨gS, 5, none⟩ (.int .i64 (cdig (a * a + b * b) 4))).setCell ⟨gS, 6, none⟩ (.int .i64 (cdig (a * a + b * b) 5))).setCell ⟨gS, 7, none⟩ (.int .i64 (cdig (a * a + b * b) 6))).setCell ⟨gS, 8, none⟩ (.int .i64 (cdig (a * a + b * b) 7))).heap[gS]? = some (.cells #[.bool false, .int .i64 (cdig (a * a + b * b) 0), .int .i64 (cdig (a * a + b * b) 1), .int .i64 (cdig (a * a + b * b) 2), .int .i64 (cdig (a * a + b * b) 3), .int .i64 (cdig (a * a + b * b) 4), .int .i64 (cdig (a * a + b * b) 5), .int .i64 (cdig (a * a + b * b) 6), .int .i64 (cdig (a * a + b * b) 7)] 52 (0, 0))) := ⟨by refine blk_put (cs := #[.bool false, .int .i64 (cdig (a * a + b * b) 0), .int .i64 (cdig (a * a + b * b) 1), .int .i64 (cdig (a * a + b * b) 2), .int .i64 (cdig (a * a + b * b) 3), .int .i64 (cdig (a * a + b * b) 4), .int .i64 (cdig (a * a + b * b) 5), .int .i64 (cdig (a * a + b * b) 6), .int .i64 0]) ?_ 8 _ rfl; refine blk_put (cs := #[.bool false, .int .i64 (cdig (a * a + b * b) 0), .int .i64 (cdig (a * a + b * b) 1), .int .i64 (cdig (a * a + b * b) 2), .int .i64 (cdig (a * a + b * b) 3), .int .i64 (cdig (a * a + b * b) 4), .int .i64 (cdig (a * a + b * b) 5), .int .i64 0, .int .i64 0]) ?_ 7 _ rfl; refine blk_put (cs := #[.bool false, .int .i64 (cdig (a * a + b * b) 0), .int .i64 (cdig (a * a + b * b) 1), .int .i64 (cdig (a * a + b * b) 2), .int .i64 (cdig (a * a + b * b) 3), .int .i64 (cdig (a * a + b * b) 4), .int .i64 0, .int .i64 0, .int .i64 0]) ?_ 6 _ rfl; refine blk_put (cs := #[.bool false, .int .i64 (cdig (a * a + b * b) 0), .int .i64 (cdig (a * a + b * b) 1), .int .i64 (cdig (a * a + b * b) 2), .int .i64 (cdig (a * a + b * b) 3), .int .i64 0, .int .i64 0, .int .i64 0, .int .i64 0]) ?_ 5 _ rfl; refine blk_put (cs := #[.bool false, .int .i64 (cdig (a * a + b * b) 0), .int .i64 (cdig (a * a + b * b) 1), .int .i64 (cdig (a * a + b * b) 2), .int .i64 0, .int .i64 0, .int .i64 0, .int .i64 0, .int .i64 0]) ?_ 4 _ rfl; refine blk_put (cs := #[.bool false, .int .i64 (cdig (a * a + b * b) 0), .int .i64 (cdig (a * a + b * b) 1), .int .i64 0, .int .i64 0, .int .i64 0, .int .i64 0, .int .i64 0, .int .i64 0]) ?_ 3 _ rfl; refine blk_put (cs := #[.bool false, .int .i64 (cdig (a * a + b * b) 0), .int .i64 0, .int .i64 0, .int .i64 0, .int .i64 0, .int .i64 0, .int .i64 0, .int .i64 0]) ?_ 2 _ rfl; refine blk_put (cs := #[.bool false, .int .i64 0, .int .i64 0, .int .i64 0, .int .i64 0, .int .i64 0, .int .i64 0, .int .i64 0, .int .i64 0]) ?_ 1 _ rfl; refine blk_put (cs := #[.bool false, .int .i64 0, .int .i64 0, .int .i64 0, .int .i64 0, .int .i64 0, .int .i64 0, .int .i64 0, .int .i64 0]) ?_ 0 _ rfl; exact BKgS.out⟩
    have m_ : Aside0 ((((((((((W_.setCell ⟨gS, 0, none⟩ (.bool false)).setCell ⟨gS, 1, none⟩ (.int .i64 (cdig (a * a + b * b) 0))).setCell ⟨gS, 2, none⟩ (.int .i64 (cdig (a * a + b * b) 1))).setCell ⟨gS, 3, none⟩ (.int .i64 (cdig (a * a + b * b) 2))).setCell ⟨gS, 4, none⟩ (.int .i64 (cdig (a * a + b * b) 3))).setCell ⟨gS, 5, none⟩ (.int .i64 (cdig (a * a + b * b) 4))).setCell ⟨gS, 6, none⟩ (.int .i64 (cdig (a * a + b * b) 5))).setCell ⟨gS, 7, none⟩ (.int .i64 (cdig (a * a + b * b) 6))).setCell ⟨gS, 8, none⟩ (.int .i64 (cdig (a * a + b * b) 7))).heap[g1]? = some (.cells #[.int .i64 a, .int .i64 b] 23 (0, 0))) := ⟨(blk_far (blk_far (blk_far (blk_far (blk_far (blk_far (blk_far (blk_far (blk_far BKg1.out NBg1_gS _) NBg1_gS _) NBg1_gS _) NBg1_gS _) NBg1_gS _) NBg1_gS _) NBg1_gS _) NBg1_gS _) NBg1_gS _)⟩
    clear BKg1; have BKg1 := m_; clear m_
    have b_ : Aside0 (Below w.heap.size w (((((((((W_.setCell ⟨gS, 0, none⟩ (.bool false)).setCell ⟨gS, 1, none⟩ (.int .i64 (cdig (a * a + b * b) 0))).setCell ⟨gS, 2, none⟩ (.int .i64 (cdig (a * a + b * b) 1))).setCell ⟨gS, 3, none⟩ (.int .i64 (cdig (a * a + b * b) 2))).setCell ⟨gS, 4, none⟩ (.int .i64 (cdig (a * a + b * b) 3))).setCell ⟨gS, 5, none⟩ (.int .i64 (cdig (a * a + b * b) 4))).setCell ⟨gS, 6, none⟩ (.int .i64 (cdig (a * a + b * b) 5))).setCell ⟨gS, 7, none⟩ (.int .i64 (cdig (a * a + b * b) 6))).setCell ⟨gS, 8, none⟩ (.int .i64 (cdig (a * a + b * b) 7)))) := ⟨(below_set (below_set (below_set (below_set (below_set (below_set (below_set (below_set (below_set HB.out GEgS.out) GEgS.out) GEgS.out) GEgS.out) GEgS.out) GEgS.out) GEgS.out) GEgS.out) GEgS.out)⟩
    clear BKgS HB; have BKgS := n_; have HB := b_; clear n_ b_
    clear hcg1_0 hfg1_0
    clear hcg1_1 hfg1_1
    clear hcgS_0 hfgS_0
    clear hcgS_1 hfgS_1
    clear hcgS_2 hfgS_2
    clear hcgS_3 hfgS_3
    clear hcgS_4 hfgS_4
    clear hcgS_5 hfgS_5
    clear hcgS_6 hfgS_6
    clear hcgS_7 hfgS_7
    clear hcgS_8 hfgS_8
    generalize (((((((((W_.setCell ⟨gS, 0, none⟩ (.bool false)).setCell ⟨gS, 1, none⟩ (.int .i64 (cdig (a * a + b * b) 0))).setCell ⟨gS, 2, none⟩ (.int .i64 (cdig (a * a + b * b) 1))).setCell ⟨gS, 3, none⟩ (.int .i64 (cdig (a * a + b * b) 2))).setCell ⟨gS, 4, none⟩ (.int .i64 (cdig (a * a + b * b) 3))).setCell ⟨gS, 5, none⟩ (.int .i64 (cdig (a * a + b * b) 4))).setCell ⟨gS, 6, none⟩ (.int .i64 (cdig (a * a + b * b) 5))).setCell ⟨gS, 7, none⟩ (.int .i64 (cdig (a * a + b * b) 6))).setCell ⟨gS, 8, none⟩ (.int .i64 (cdig (a * a + b * b) 7))) = W2 at *
    have hcg1_0 : W2.cell? ⟨g1, 0, none⟩ = some (.int .i64 a) := (blk_cell BKg1.out 0).trans rfl
    have hfg1_0 := blk_frozen BKg1.out 0
    have hcg1_1 : W2.cell? ⟨g1, 1, none⟩ = some (.int .i64 b) := (blk_cell BKg1.out 1).trans rfl
    have hfg1_1 := blk_frozen BKg1.out 1
    have hcgS_0 : W2.cell? ⟨gS, 0, none⟩ = some (.bool false) := (blk_cell BKgS.out 0).trans rfl
    have hfgS_0 := blk_frozen BKgS.out 0
    have hcgS_1 : W2.cell? ⟨gS, 1, none⟩ = some (.int .i64 (cdig (a * a + b * b) 0)) := (blk_cell BKgS.out 1).trans rfl
    have hfgS_1 := blk_frozen BKgS.out 1
    have hcgS_2 : W2.cell? ⟨gS, 2, none⟩ = some (.int .i64 (cdig (a * a + b * b) 1)) := (blk_cell BKgS.out 2).trans rfl
    have hfgS_2 := blk_frozen BKgS.out 2
    have hcgS_3 : W2.cell? ⟨gS, 3, none⟩ = some (.int .i64 (cdig (a * a + b * b) 2)) := (blk_cell BKgS.out 3).trans rfl
    have hfgS_3 := blk_frozen BKgS.out 3
    have hcgS_4 : W2.cell? ⟨gS, 4, none⟩ = some (.int .i64 (cdig (a * a + b * b) 3)) := (blk_cell BKgS.out 4).trans rfl
    have hfgS_4 := blk_frozen BKgS.out 4
    have hcgS_5 : W2.cell? ⟨gS, 5, none⟩ = some (.int .i64 (cdig (a * a + b * b) 4)) := (blk_cell BKgS.out 5).trans rfl
    have hfgS_5 := blk_frozen BKgS.out 5
    have hcgS_6 : W2.cell? ⟨gS, 6, none⟩ = some (.int .i64 (cdig (a * a + b * b) 5)) := (blk_cell BKgS.out 6).trans rfl
    have hfgS_6 := blk_frozen BKgS.out 6
    have hcgS_7 : W2.cell? ⟨gS, 7, none⟩ = some (.int .i64 (cdig (a * a + b * b) 6)) := (blk_cell BKgS.out 7).trans rfl
    have hfgS_7 := blk_frozen BKgS.out 7
    have hcgS_8 : W2.cell? ⟨gS, 8, none⟩ = some (.int .i64 (cdig (a * a + b * b) 7)) := (blk_cell BKgS.out 8).trans rfl
    have hfgS_8 := blk_frozen BKgS.out 8
    go_wp2
    go_loopw [4, 5] (fun vn vi wr => ∃ (j : Nat) (N : Int), vn = .int .i64 N ∧ vi = .int .i64 ((j : Int) - 1) ∧ Aside0 (j ≤ 63) ∧ Aside0 (LRel 63 (a * a + b * b) j N) ∧ Aside0 (wr.heap[gS]? = some (.cells #[.bool false, .int .i64 (cdig (a * a + b * b) 0), .int .i64 (cdig (a * a + b * b) 1), .int .i64 (cdig (a * a + b * b) 2), .int .i64 (cdig (a * a + b * b) 3), .int .i64 (cdig (a * a + b * b) 4), .int .i64 (cdig (a * a + b * b) 5), .int .i64 (cdig (a * a + b * b) 6), .int .i64 (cdig (a * a + b * b) 7)] 52 (0, 0))) ∧ Aside0 (Below w.heap.size w wr)) (fun _ vi _ => (intOf vi + 1).toNat)
    case atStart => exact ⟨63, 0, rfl, rfl, ⟨by omega⟩, ⟨LRel.start 63 r3.nonneg⟩, BKgS, HB⟩
    case round =>
      clear BKg1 BKgS HB hcg1_0 hfg1_0 hcg1_1 hfg1_1 hcgS_0 hfgS_0 hcgS_1 hfgS_1 hcgS_2 hfgS_2 hcgS_3 hfgS_3 hcgS_4 hfgS_4 hcgS_5 hfgS_5 hcgS_6 hfgS_6 hcgS_7 hfgS_7 hcgS_8 hfgS_8
      obtain ⟨j, N, rfl, rfl, Hj, HL, BKgS, HB⟩ := hrel
      have hj := Hj.out; have hN0 := HL.out.pos
      cases j with
      | zero =>
        rw [show (((0 : Nat) : Int) - 1) = -1 from rfl]
        go_wp2
        go_ret
        exact ⟨ret_int (by rw [← HS.out]; exact rootOf_eq HL.out), HB.out⟩
      | succ k =>
        rw [show (((k + 1 : Nat) : Int) - 1) = (k : Int) from by omega]
        have ht := HL.out.top; have t1 := two_succ k; have t2 := two_pos k; have t3 := shl_two k (by omega)
        have h63 : two 63 = 9223372036854775808 := by decide
        obtain ⟨V, hV⟩ : ∃ V, V = N + two k := ⟨_, rfl⟩
        have hVI : I64 V := ⟨by omega, by omega⟩
        have hN1 : N + two k ≤ 9223372036854775807 := by omega
        clear ht t1 h63
        have hw : wrap64 (N + wrap64 (2 ^ k)) = V := by
          have e : (2 : Int) ^ k = two k := by unfold two; simp
          rw [e, hV]; unfold wrap64; omega
        have HW := Lib.hid hw; have HV := Lib.hid hV; clear hw hV
        obtain ⟨rV, _⟩ := sq_rep hVI
        go_wp2
        rw [HW.out]
        have hcase : (V * V ≤ a * a + b * b ∧ cmpI (V * V) (a * a + b * b) ≤ 0) ∨ (a * a + b * b < V * V ∧ 0 < cmpI (V * V) (a * a + b * b)) := by
          rcases Int.lt_or_le (a * a + b * b) (V * V) with c | c
          · exact .inr ⟨c, cmp_gt c⟩
          · exact .inl ⟨c, cmp_le c⟩
        have hq0 : ∀ u : Aft wr, u.w.cell? ⟨gS, 0, none⟩ = some (.bool false) := fun u => (blk_cell (blk_below BKgS.out u.below) 0).trans rfl
        have hq1 : ∀ u : Aft wr, u.w.cell? ⟨gS, 1, none⟩ = some (.int .i64 (cdig (a * a + b * b) 0)) := fun u => (blk_cell (blk_below BKgS.out u.below) 1).trans rfl
        have hq2 : ∀ u : Aft wr, u.w.cell? ⟨gS, 2, none⟩ = some (.int .i64 (cdig (a * a + b * b) 1)) := fun u => (blk_cell (blk_below BKgS.out u.below) 2).trans rfl
        have hq3 : ∀ u : Aft wr, u.w.cell? ⟨gS, 3, none⟩ = some (.int .i64 (cdig (a * a + b * b) 2)) := fun u => (blk_cell (blk_below BKgS.out u.below) 3).trans rfl
        have hq4 : ∀ u : Aft wr, u.w.cell? ⟨gS, 4, none⟩ = some (.int .i64 (cdig (a * a + b * b) 3)) := fun u => (blk_cell (blk_below BKgS.out u.below) 4).trans rfl
        have hq5 : ∀ u : Aft wr, u.w.cell? ⟨gS, 5, none⟩ = some (.int .i64 (cdig (a * a + b * b) 4)) := fun u => (blk_cell (blk_below BKgS.out u.below) 5).trans rfl
        have hq6 : ∀ u : Aft wr, u.w.cell? ⟨gS, 6, none⟩ = some (.int .i64 (cdig (a * a + b * b) 5)) := fun u => (blk_cell (blk_below BKgS.out u.below) 6).trans rfl
        have hq7 : ∀ u : Aft wr, u.w.cell? ⟨gS, 7, none⟩ = some (.int .i64 (cdig (a * a + b * b) 6)) := fun u => (blk_cell (blk_below BKgS.out u.below) 7).trans rfl
        have hq8 : ∀ u : Aft wr, u.w.cell? ⟨gS, 8, none⟩ = some (.int .i64 (cdig (a * a + b * b) 7)) := fun u => (blk_cell (blk_below BKgS.out u.below) 8).trans rfl
        refine wp_region_aft (by kernel_rfl) (by kernel_rfl) ?_
        repeat (go_big_quiet_step (fail))
        go_big_quiet_step (refine aft_call (fun w => square_calls V w hVI))
        repeat (go_big_quiet_step (fail))
        go_big_quiet_step (refine aft_call (fun w => compare_ex false false (V * V) (a * a + b * b) w rV r3))
        repeat (go_big_quiet_step (fail))
        refine wpQuiet_nil ?_
        intro WN hb_
        clear hq0 hq1 hq2 hq3 hq4 hq5 hq6 hq7 hq8
        have n_ := Aside0.mk (blk_below BKgS.out hb_); clear BKgS; have BKgS := n_; clear n_
        have n_ := Aside0.mk (below_step HB.out hb_); clear HB; have HB := n_; clear n_ hb_
        rcases hcase with ⟨c1, c2⟩ | ⟨c1, c2⟩
        · go_wp2
          exact ⟨⟨k, V, rfl, rfl, ⟨by omega⟩, ⟨by have := HL.out.take (by rw [← HV.out]; exact c1); rw [HV.out]; exact this⟩, BKgS, HB⟩, by simp [intOf]⟩
        · go_wp2
          exact ⟨⟨k, N, rfl, rfl, ⟨by omega⟩, ⟨HL.out.leave (by rw [← HV.out]; exact c1)⟩, BKgS, HB⟩, by simp [intOf]⟩
  ·
    have n_ : Aside0 ((((((((((W_.setCell ⟨gS, 0, none⟩ (.bool false)).setCell ⟨gS, 1, none⟩ (.int .i64 (cdig (a * a + b * b) 0))).setCell ⟨gS, 2, none⟩ (.int .i64 (cdig (a * a + b * b) 1))).setCell ⟨gS, 3, none⟩ (.int .i64 (cdig (a * a + b * b) 2))).setCell ⟨gS, 4, none⟩ (.int .i64 (cdig (a * a + b * b) 3))).setCell ⟨gS, 5, none⟩ (.int .i64 (cdig (a * a + b * b) 4))).setCell ⟨gS, 6, none⟩ (.int .i64 (cdig (a * a + b * b) 5))).setCell ⟨gS, 7, none⟩ (.int .i64 (cdig (a * a + b * b) 6))).setCell ⟨gS, 8, none⟩ (.int .i64 (cdig (a * a + b * b) 7))).heap[gS]? = some (.cells #[.bool false, .int .i64 (cdig (a * a + b * b) 0), .int .i64 (cdig (a * a + b * b) 1), .int .i64 (cdig (a * a + b * b) 2), .int .i64 (cdig (a * a + b * b) 3), .int .i64 (cdig (a * a + b * b) 4), .int .i64 (cdig (a * a + b * b) 5), .int .i64 (cdig (a * a + b * b) 6), .int .i64 (cdig (a * a + b * b) 7)] 52 (0, 0))) := ⟨by refine blk_put (cs := #[.bool false, .int .i64 (cdig (a * a + b * b) 0), .int .i64 (cdig (a * a + b * b) 1), .int .i64 (cdig (a * a + b * b) 2), .int .i64 (cdig (a * a + b * b) 3), .int .i64 (cdig (a * a + b * b) 4), .int .i64 (cdig (a * a + b * b) 5), .int .i64 (cdig (a * a + b * b) 6), .int .i64 0]) ?_ 8 _ rfl; refine blk_put (cs := #[.bool false, .int .i64 (cdig (a * a + b * b) 0), .int .i64 (cdig (a * a + b * b) 1), .int .i64 (cdig (a * a + b * b) 2), .int .i64 (cdig (a * a + b * b) 3), .int .i64 (cdig (a * a + b * b) 4), .int .i64 (cdig (a * a + b * b) 5), .int .i64 0, .int .i64 0]) ?_ 7 _ rfl; refine blk_put (cs := #[.bool false, .int .i64 (cdig (a * a + b * b) 0), .int .i64 (cdig (a * a + b * b) 1), .int .i64 (cdig (a * a + b * b) 2), .int .i64 (cdig (a * a + b * b) 3), .int .i64 (cdig (a * a + b * b) 4), .int .i64 0, .int .i64 0, .int .i64 0]) ?_ 6 _ rfl; refine blk_put (cs := #[.bool false, .int .i64 (cdig (a * a + b * b) 0), .int .i64 (cdig (a * a + b * b) 1), .int .i64 (cdig (a * a + b * b) 2), .int .i64 (cdig (a * a + b * b) 3), .int .i64 0, .int .i64 0, .int .i64 0, .int .i64 0]) ?_ 5 _ rfl; refine blk_put (cs := #[.bool false, .int .i64 (cdig (a * a + b * b) 0), .int .i64 (cdig (a * a + b * b) 1), .int .i64 (cdig (a * a + b * b) 2), .int .i64 0, .int .i64 0, .int .i64 0, .int .i64 0, .int .i64 0]) ?_ 4 _ rfl; refine blk_put (cs := #[.bool false, .int .i64 (cdig (a * a + b * b) 0), .int .i64 (cdig (a * a + b * b) 1), .int .i64 0, .int .i64 0, .int .i64 0, .int .i64 0, .int .i64 0, .int .i64 0]) ?_ 3 _ rfl; refine blk_put (cs := #[.bool false, .int .i64 (cdig (a * a + b * b) 0), .int .i64 0, .int .i64 0, .int .i64 0, .int .i64 0, .int .i64 0, .int .i64 0, .int .i64 0]) ?_ 2 _ rfl; refine blk_put (cs := #[.bool false, .int .i64 0, .int .i64 0, .int .i64 0, .int .i64 0, .int .i64 0, .int .i64 0, .int .i64 0, .int .i64 0]) ?_ 1 _ rfl; refine blk_put (cs := #[.bool false, .int .i64 0, .int .i64 0, .int .i64 0, .int .i64 0, .int .i64 0, .int .i64 0, .int .i64 0, .int .i64 0]) ?_ 0 _ rfl; exact BKgS.out⟩
    have m_ : Aside0 ((((((((((W_.setCell ⟨gS, 0, none⟩ (.bool false)).setCell ⟨gS, 1, none⟩ (.int .i64 (cdig (a * a + b * b) 0))).setCell ⟨gS, 2, none⟩ (.int .i64 (cdig (a * a + b * b) 1))).setCell ⟨gS, 3, none⟩ (.int .i64 (cdig (a * a + b * b) 2))).setCell ⟨gS, 4, none⟩ (.int .i64 (cdig (a * a + b * b) 3))).setCell ⟨gS, 5, none⟩ (.int .i64 (cdig (a * a + b * b) 4))).setCell ⟨gS, 6, none⟩ (.int .i64 (cdig (a * a + b * b) 5))).setCell ⟨gS, 7, none⟩ (.int .i64 (cdig (a * a + b * b) 6))).setCell ⟨gS, 8, none⟩ (.int .i64 (cdig (a * a + b * b) 7))).heap[g1]? = some (.cells #[.int .i64 a, .int .i64 b] 23 (0, 0))) := ⟨(blk_far (blk_far (blk_far (blk_far (blk_far (blk_far (blk_far (blk_far (blk_far BKg1.out NBg1_gS _) NBg1_gS _) NBg1_gS _) NBg1_gS _) NBg1_gS _) NBg1_gS _) NBg1_gS _) NBg1_gS _) NBg1_gS _)⟩
    clear BKg1; have BKg1 := m_; clear m_
    have b_ : Aside0 (Below w.heap.size w (((((((((W_.setCell ⟨gS, 0, none⟩ (.bool false)).setCell ⟨gS, 1, none⟩ (.int .i64 (cdig (a * a + b * b) 0))).setCell ⟨gS, 2, none⟩ (.int .i64 (cdig (a * a + b * b) 1))).setCell ⟨gS, 3, none⟩ (.int .i64 (cdig (a * a + b * b) 2))).setCell ⟨gS, 4, none⟩ (.int .i64 (cdig (a * a + b * b) 3))).setCell ⟨gS, 5, none⟩ (.int .i64 (cdig (a * a + b * b) 4))).setCell ⟨gS, 6, none⟩ (.int .i64 (cdig (a * a + b * b) 5))).setCell ⟨gS, 7, none⟩ (.int .i64 (cdig (a * a + b * b) 6))).setCell ⟨gS, 8, none⟩ (.int .i64 (cdig (a * a + b * b) 7)))) := ⟨(below_set (below_set (below_set (below_set (below_set (below_set (below_set (below_set (below_set HB.out GEgS.out) GEgS.out) GEgS.out) GEgS.out) GEgS.out) GEgS.out) GEgS.out) GEgS.out) GEgS.out)⟩
    clear BKgS HB; have BKgS := n_; have HB := b_; clear n_ b_
    clear hcg1_0 hfg1_0
    clear hcg1_1 hfg1_1
    clear hcgS_0 hfgS_0
    clear hcgS_1 hfgS_1
    clear hcgS_2 hfgS_2
    clear hcgS_3 hfgS_3
    clear hcgS_4 hfgS_4
    clear hcgS_5 hfgS_5
    clear hcgS_6 hfgS_6
    clear hcgS_7 hfgS_7
    clear hcgS_8 hfgS_8
    generalize (((((((((W_.setCell ⟨gS, 0, none⟩ (.bool false)).setCell ⟨gS, 1, none⟩ (.int .i64 (cdig (a * a + b * b) 0))).setCell ⟨gS, 2, none⟩ (.int .i64 (cdig (a * a + b * b) 1))).setCell ⟨gS, 3, none⟩ (.int .i64 (cdig (a * a + b * b) 2))).setCell ⟨gS, 4, none⟩ (.int .i64 (cdig (a * a + b * b) 3))).setCell ⟨gS, 5, none⟩ (.int .i64 (cdig (a * a + b * b) 4))).setCell ⟨gS, 6, none⟩ (.int .i64 (cdig (a * a + b * b) 5))).setCell ⟨gS, 7, none⟩ (.int .i64 (cdig (a * a + b * b) 6))).setCell ⟨gS, 8, none⟩ (.int .i64 (cdig (a * a + b * b) 7))) = W3 at *
    have hcg1_0 : W3.cell? ⟨g1, 0, none⟩ = some (.int .i64 a) := (blk_cell BKg1.out 0).trans rfl
    have hfg1_0 := blk_frozen BKg1.out 0
    have hcg1_1 : W3.cell? ⟨g1, 1, none⟩ = some (.int .i64 b) := (blk_cell BKg1.out 1).trans rfl
    have hfg1_1 := blk_frozen BKg1.out 1
    have hcgS_0 : W3.cell? ⟨gS, 0, none⟩ = some (.bool false) := (blk_cell BKgS.out 0).trans rfl
    have hfgS_0 := blk_frozen BKgS.out 0
    have hcgS_1 : W3.cell? ⟨gS, 1, none⟩ = some (.int .i64 (cdig (a * a + b * b) 0)) := (blk_cell BKgS.out 1).trans rfl
    have hfgS_1 := blk_frozen BKgS.out 1
    have hcgS_2 : W3.cell? ⟨gS, 2, none⟩ = some (.int .i64 (cdig (a * a + b * b) 1)) := (blk_cell BKgS.out 2).trans rfl
    have hfgS_2 := blk_frozen BKgS.out 2
    have hcgS_3 : W3.cell? ⟨gS, 3, none⟩ = some (.int .i64 (cdig (a * a + b * b) 2)) := (blk_cell BKgS.out 3).trans rfl
    have hfgS_3 := blk_frozen BKgS.out 3
    have hcgS_4 : W3.cell? ⟨gS, 4, none⟩ = some (.int .i64 (cdig (a * a + b * b) 3)) := (blk_cell BKgS.out 4).trans rfl
    have hfgS_4 := blk_frozen BKgS.out 4
    have hcgS_5 : W3.cell? ⟨gS, 5, none⟩ = some (.int .i64 (cdig (a * a + b * b) 4)) := (blk_cell BKgS.out 5).trans rfl
    have hfgS_5 := blk_frozen BKgS.out 5
    have hcgS_6 : W3.cell? ⟨gS, 6, none⟩ = some (.int .i64 (cdig (a * a + b * b) 5)) := (blk_cell BKgS.out 6).trans rfl
    have hfgS_6 := blk_frozen BKgS.out 6
    have hcgS_7 : W3.cell? ⟨gS, 7, none⟩ = some (.int .i64 (cdig (a * a + b * b) 6)) := (blk_cell BKgS.out 7).trans rfl
    have hfgS_7 := blk_frozen BKgS.out 7
    have hcgS_8 : W3.cell? ⟨gS, 8, none⟩ = some (.int .i64 (cdig (a * a + b * b) 7)) := (blk_cell BKgS.out 8).trans rfl
    have hfgS_8 := blk_frozen BKgS.out 8
    go_wp2
    go_loopw [4, 5] (fun vn vi wr => ∃ (j : Nat) (N : Int), vn = .int .i64 N ∧ vi = .int .i64 ((j : Int) - 1) ∧ Aside0 (j ≤ 63) ∧ Aside0 (LRel 63 (a * a + b * b) j N) ∧ Aside0 (wr.heap[gS]? = some (.cells #[.bool false, .int .i64 (cdig (a * a + b * b) 0), .int .i64 (cdig (a * a + b * b) 1), .int .i64 (cdig (a * a + b * b) 2), .int .i64 (cdig (a * a + b * b) 3), .int .i64 (cdig (a * a + b * b) 4), .int .i64 (cdig (a * a + b * b) 5), .int .i64 (cdig (a * a + b * b) 6), .int .i64 (cdig (a * a + b * b) 7)] 52 (0, 0))) ∧ Aside0 (Below w.heap.size w wr)) (fun _ vi _ => (intOf vi + 1).toNat)
    case atStart => exact ⟨63, 0, rfl, rfl, ⟨by omega⟩, ⟨LRel.start 63 r3.nonneg⟩, BKgS, HB⟩
    case round =>
      clear BKg1 BKgS HB hcg1_0 hfg1_0 hcg1_1 hfg1_1 hcgS_0 hfgS_0 hcgS_1 hfgS_1 hcgS_2 hfgS_2 hcgS_3 hfgS_3 hcgS_4 hfgS_4 hcgS_5 hfgS_5 hcgS_6 hfgS_6 hcgS_7 hfgS_7 hcgS_8 hfgS_8
      obtain ⟨j, N, rfl, rfl, Hj, HL, BKgS, HB⟩ := hrel
      have hj := Hj.out; have hN0 := HL.out.pos
      cases j with
      | zero =>
        rw [show (((0 : Nat) : Int) - 1) = -1 from rfl]
        go_wp2
        go_ret
        exact ⟨ret_int (by rw [← HS.out]; exact rootOf_eq HL.out), HB.out⟩
      | succ k =>
        rw [show (((k + 1 : Nat) : Int) - 1) = (k : Int) from by omega]
        have ht := HL.out.top; have t1 := two_succ k; have t2 := two_pos k; have t3 := shl_two k (by omega)
        have h63 : two 63 = 9223372036854775808 := by decide
        obtain ⟨V, hV⟩ : ∃ V, V = N + two k := ⟨_, rfl⟩
        have hVI : I64 V := ⟨by omega, by omega⟩
        have hN1 : N + two k ≤ 9223372036854775807 := by omega
        clear ht t1 h63
        have hw : wrap64 (N + wrap64 (2 ^ k)) = V := by
          have e : (2 : Int) ^ k = two k := by unfold two; simp
          rw [e, hV]; unfold wrap64; omega
        have HW := Lib.hid hw; have HV := Lib.hid hV; clear hw hV
        obtain ⟨rV, _⟩ := sq_rep hVI
        go_wp2
        rw [HW.out]
        have hcase : (V * V ≤ a * a + b * b ∧ cmpI (V * V) (a * a + b * b) ≤ 0) ∨ (a * a + b * b < V * V ∧ 0 < cmpI (V * V) (a * a + b * b)) := by
          rcases Int.lt_or_le (a * a + b * b) (V * V) with c | c
          · exact .inr ⟨c, cmp_gt c⟩
          · exact .inl ⟨c, cmp_le c⟩
        have hq0 : ∀ u : Aft wr, u.w.cell? ⟨gS, 0, none⟩ = some (.bool false) := fun u => (blk_cell (blk_below BKgS.out u.below) 0).trans rfl
        have hq1 : ∀ u : Aft wr, u.w.cell? ⟨gS, 1, none⟩ = some (.int .i64 (cdig (a * a + b * b) 0)) := fun u => (blk_cell (blk_below BKgS.out u.below) 1).trans rfl
        have hq2 : ∀ u : Aft wr, u.w.cell? ⟨gS, 2, none⟩ = some (.int .i64 (cdig (a * a + b * b) 1)) := fun u => (blk_cell (blk_below BKgS.out u.below) 2).trans rfl
        have hq3 : ∀ u : Aft wr, u.w.cell? ⟨gS, 3, none⟩ = some (.int .i64 (cdig (a * a + b * b) 2)) := fun u => (blk_cell (blk_below BKgS.out u.below) 3).trans rfl
        have hq4 : ∀ u : Aft wr, u.w.cell? ⟨gS, 4, none⟩ = some (.int .i64 (cdig (a * a + b * b) 3)) := fun u => (blk_cell (blk_below BKgS.out u.below) 4).trans rfl
        have hq5 : ∀ u : Aft wr, u.w.cell? ⟨gS, 5, none⟩ = some (.int .i64 (cdig (a * a + b * b) 4)) := fun u => (blk_cell (blk_below BKgS.out u.below) 5).trans rfl
        have hq6 : ∀ u : Aft wr, u.w.cell? ⟨gS, 6, none⟩ = some (.int .i64 (cdig (a * a + b * b) 5)) := fun u => (blk_cell (blk_below BKgS.out u.below) 6).trans rfl
        have hq7 : ∀ u : Aft wr, u.w.cell? ⟨gS, 7, none⟩ = some (.int .i64 (cdig (a * a + b * b) 6)) := fun u => (blk_cell (blk_below BKgS.out u.below) 7).trans rfl
        have hq8 : ∀ u : Aft wr, u.w.cell? ⟨gS, 8, none⟩ = some (.int .i64 (cdig (a * a + b * b) 7)) := fun u => (blk_cell (blk_below BKgS.out u.below) 8).trans rfl
        refine wp_region_aft (by kernel_rfl) (by kernel_rfl) ?_
        repeat (go_big_quiet_step (fail))
        go_big_quiet_step (refine aft_call (fun w => square_calls V w hVI))
        repeat (go_big_quiet_step (fail))
        go_big_quiet_step (refine aft_call (fun w => compare_ex false false (V * V) (a * a + b * b) w rV r3))
        repeat (go_big_quiet_step (fail))
        refine wpQuiet_nil ?_
        intro WN hb_
        clear hq0 hq1 hq2 hq3 hq4 hq5 hq6 hq7 hq8
        have n_ := Aside0.mk (blk_below BKgS.out hb_); clear BKgS; have BKgS := n_; clear n_
        have n_ := Aside0.mk (below_step HB.out hb_); clear HB; have HB := n_; clear n_ hb_
        rcases hcase with ⟨c1, c2⟩ | ⟨c1, c2⟩
        · go_wp2
          exact ⟨⟨k, V, rfl, rfl, ⟨by omega⟩, ⟨by have := HL.out.take (by rw [← HV.out]; exact c1); rw [HV.out]; exact this⟩, BKgS, HB⟩, by simp [intOf]⟩
        · go_wp2
          exact ⟨⟨k, N, rfl, rfl, ⟨by omega⟩, ⟨HL.out.leave (by rw [← HV.out]; exact c1)⟩, BKgS, HB⟩, by simp [intOf]⟩
  ·
    have n_ : Aside0 ((((((((((W_.setCell ⟨gS, 0, none⟩ (.bool false)).setCell ⟨gS, 1, none⟩ (.int .i64 (cdig (a * a + b * b) 0))).setCell ⟨gS, 2, none⟩ (.int .i64 (cdig (a * a + b * b) 1))).setCell ⟨gS, 3, none⟩ (.int .i64 (cdig (a * a + b * b) 2))).setCell ⟨gS, 4, none⟩ (.int .i64 (cdig (a * a + b * b) 3))).setCell ⟨gS, 5, none⟩ (.int .i64 (cdig (a * a + b * b) 4))).setCell ⟨gS, 6, none⟩ (.int .i64 (cdig (a * a + b * b) 5))).setCell ⟨gS, 7, none⟩ (.int .i64 (cdig (a * a + b * b) 6))).setCell ⟨gS, 8, none⟩ (.int .i64 (cdig (a * a + b * b) 7))).heap[gS]? = some (.cells #[.bool false, .int .i64 (cdig (a * a + b * b) 0), .int .i64 (cdig (a * a + b * b) 1), .int .i64 (cdig (a * a + b * b) 2), .int .i64 (cdig (a * a + b * b) 3), .int .i64 (cdig (a * a + b * b) 4), .int .i64 (cdig (a * a + b * b) 5), .int .i64 (cdig (a * a + b * b) 6), .int .i64 (cdig (a * a + b * b) 7)] 52 (0, 0))) := ⟨by refine blk_put (cs := #[.bool false, .int .i64 (cdig (a * a + b * b) 0), .int .i64 (cdig (a * a + b * b) 1), .int .i64 (cdig (a * a + b * b) 2), .int .i64 (cdig (a * a + b * b) 3), .int .i64 (cdig (a * a + b * b) 4), .int .i64 (cdig (a * a + b * b) 5), .int .i64 (cdig (a * a + b * b) 6), .int .i64 0]) ?_ 8 _ rfl; refine blk_put (cs := #[.bool false, .int .i64 (cdig (a * a + b * b) 0), .int .i64 (cdig (a * a + b * b) 1), .int .i64 (cdig (a * a + b * b) 2), .int .i64 (cdig (a * a + b * b) 3), .int .i64 (cdig (a * a + b * b) 4), .int .i64 (cdig (a * a + b * b) 5), .int .i64 0, .int .i64 0]) ?_ 7 _ rfl; refine blk_put (cs := #[.bool false, .int .i64 (cdig (a * a + b * b) 0), .int .i64 (cdig (a * a + b * b) 1), .int .i64 (cdig (a * a + b * b) 2), .int .i64 (cdig (a * a + b * b) 3), .int .i64 (cdig (a * a + b * b) 4), .int .i64 0, .int .i64 0, .int .i64 0]) ?_ 6 _ rfl; refine blk_put (cs := #[.bool false, .int .i64 (cdig (a * a + b * b) 0), .int .i64 (cdig (a * a + b * b) 1), .int .i64 (cdig (a * a + b * b) 2), .int .i64 (cdig (a * a + b * b) 3), .int .i64 0, .int .i64 0, .int .i64 0, .int .i64 0]) ?_ 5 _ rfl; refine blk_put (cs := #[.bool false, .int .i64 (cdig (a * a + b * b) 0), .int .i64 (cdig (a * a + b * b) 1), .int .i64 (cdig (a * a + b * b) 2), .int .i64 0, .int .i64 0, .int .i64 0, .int .i64 0, .int .i64 0]) ?_ 4 _ rfl; refine blk_put (cs := #[.bool false, .int .i64 (cdig (a * a + b * b) 0), .int .i64 (cdig (a * a + b * b) 1), .int .i64 0, .int .i64 0, .int .i64 0, .int .i64 0, .int .i64 0, .int .i64 0]) ?_ 3 _ rfl; refine blk_put (cs := #[.bool false, .int .i64 (cdig (a * a + b * b) 0), .int .i64 0, .int .i64 0, .int .i64 0, .int .i64 0, .int .i64 0, .int .i64 0, .int .i64 0]) ?_ 2 _ rfl; refine blk_put (cs := #[.bool false, .int .i64 0, .int .i64 0, .int .i64 0, .int .i64 0, .int .i64 0, .int .i64 0, .int .i64 0, .int .i64 0]) ?_ 1 _ rfl; refine blk_put (cs := #[.bool false, .int .i64 0, .int .i64 0, .int .i64 0, .int .i64 0, .int .i64 0, .int .i64 0, .int .i64 0, .int .i64 0]) ?_ 0 _ rfl; exact BKgS.out⟩
    have m_ : Aside0 ((((((((((W_.setCell ⟨gS, 0, none⟩ (.bool false)).setCell ⟨gS, 1, none⟩ (.int .i64 (cdig (a * a + b * b) 0))).setCell ⟨gS, 2, none⟩ (.int .i64 (cdig (a * a + b * b) 1))).setCell ⟨gS, 3, none⟩ (.int .i64 (cdig (a * a + b * b) 2))).setCell ⟨gS, 4, none⟩ (.int .i64 (cdig (a * a + b * b) 3))).setCell ⟨gS, 5, none⟩ (.int .i64 (cdig (a * a + b * b) 4))).setCell ⟨gS, 6, none⟩ (.int .i64 (cdig (a * a + b * b) 5))).setCell ⟨gS, 7, none⟩ (.int .i64 (cdig (a * a + b * b) 6))).setCell ⟨gS, 8, none⟩ (.int .i64 (cdig (a * a + b * b) 7))).heap[g1]? = some (.cells #[.int .i64 a, .int .i64 b] 23 (0, 0))) := ⟨(blk_far (blk_far (blk_far (blk_far (blk_far (blk_far (blk_far (blk_far (blk_far BKg1.out NBg1_gS _) NBg1_gS _) NBg1_gS _) NBg1_gS _) NBg1_gS _) NBg1_gS _) NBg1_gS _) NBg1_gS _) NBg1_gS _)⟩
    clear BKg1; have BKg1 := m_; clear m_
    have b_ : Aside0 (Below w.heap.size w (((((((((W_.setCell ⟨gS, 0, none⟩ (.bool false)).setCell ⟨gS, 1, none⟩ (.int .i64 (cdig (a * a + b * b) 0))).setCell ⟨gS, 2, none⟩ (.int .i64 (cdig (a * a + b * b) 1))).setCell ⟨gS, 3, none⟩ (.int .i64 (cdig (a * a + b * b) 2))).setCell ⟨gS, 4, none⟩ (.int .i64 (cdig (a * a + b * b) 3))).setCell ⟨gS, 5, none⟩ (.int .i64 (cdig (a * a + b * b) 4))).setCell ⟨gS, 6, none⟩ (.int .i64 (cdig (a * a + b * b) 5))).setCell ⟨gS, 7, none⟩ (.int .i64 (cdig (a * a + b * b) 6))).setCell ⟨gS, 8, none⟩ (.int .i64 (cdig (a * a + b * b) 7)))) := ⟨(below_set (below_set (below_set (below_set (below_set (below_set (below_set (below_set (below_set HB.out GEgS.out) GEgS.out) GEgS.out) GEgS.out) GEgS.out) GEgS.out) GEgS.out) GEgS.out) GEgS.out)⟩
    clear BKgS HB; have BKgS := n_; have HB := b_; clear n_ b_
    clear hcg1_0 hfg1_0
    clear hcg1_1 hfg1_1
    clear hcgS_0 hfgS_0
    clear hcgS_1 hfgS_1
    clear hcgS_2 hfgS_2
    clear hcgS_3 hfgS_3
    clear hcgS_4 hfgS_4
    clear hcgS_5 hfgS_5
    clear hcgS_6 hfgS_6
    clear hcgS_7 hfgS_7
    clear hcgS_8 hfgS_8
    generalize (((((((((W_.setCell ⟨gS, 0, none⟩ (.bool false)).setCell ⟨gS, 1, none⟩ (.int .i64 (cdig (a * a + b * b) 0))).setCell ⟨gS, 2, none⟩ (.int .i64 (cdig (a * a + b * b) 1))).setCell ⟨gS, 3, none⟩ (.int .i64 (cdig (a * a + b * b) 2))).setCell ⟨gS, 4, none⟩ (.int .i64 (cdig (a * a + b * b) 3))).setCell ⟨gS, 5, none⟩ (.int .i64 (cdig (a * a + b * b) 4))).setCell ⟨gS, 6, none⟩ (.int .i64 (cdig (a * a + b * b) 5))).setCell ⟨gS, 7, none⟩ (.int .i64 (cdig (a * a + b * b) 6))).setCell ⟨gS, 8, none⟩ (.int .i64 (cdig (a * a + b * b) 7))) = W4 at *
    have hcg1_0 : W4.cell? ⟨g1, 0, none⟩ = some (.int .i64 a) := (blk_cell BKg1.out 0).trans rfl
    have hfg1_0 := blk_frozen BKg1.out 0
    have hcg1_1 : W4.cell? ⟨g1, 1, none⟩ = some (.int .i64 b) := (blk_cell BKg1.out 1).trans rfl
    have hfg1_1 := blk_frozen BKg1.out 1
    have hcgS_0 : W4.cell? ⟨gS, 0, none⟩ = some (.bool false) := (blk_cell BKgS.out 0).trans rfl
    have hfgS_0 := blk_frozen BKgS.out 0
    have hcgS_1 : W4.cell? ⟨gS, 1, none⟩ = some (.int .i64 (cdig (a * a + b * b) 0)) := (blk_cell BKgS.out 1).trans rfl
    have hfgS_1 := blk_frozen BKgS.out 1
    have hcgS_2 : W4.cell? ⟨gS, 2, none⟩ = some (.int .i64 (cdig (a * a + b * b) 1)) := (blk_cell BKgS.out 2).trans rfl
    have hfgS_2 := blk_frozen BKgS.out 2
    have hcgS_3 : W4.cell? ⟨gS, 3, none⟩ = some (.int .i64 (cdig (a * a + b * b) 2)) := (blk_cell BKgS.out 3).trans rfl
    have hfgS_3 := blk_frozen BKgS.out 3
    have hcgS_4 : W4.cell? ⟨gS, 4, none⟩ = some (.int .i64 (cdig (a * a + b * b) 3)) := (blk_cell BKgS.out 4).trans rfl
    have hfgS_4 := blk_frozen BKgS.out 4
    have hcgS_5 : W4.cell? ⟨gS, 5, none⟩ = some (.int .i64 (cdig (a * a + b * b) 4)) := (blk_cell BKgS.out 5).trans rfl
    have hfgS_5 := blk_frozen BKgS.out 5
    have hcgS_6 : W4.cell? ⟨gS, 6, none⟩ = some (.int .i64 (cdig (a * a + b * b) 5)) := (blk_cell BKgS.out 6).trans rfl
    have hfgS_6 := blk_frozen BKgS.out 6
    have hcgS_7 : W4.cell? ⟨gS, 7, none⟩ = some (.int .i64 (cdig (a * a + b * b) 6)) := (blk_cell BKgS.out 7).trans rfl
    have hfgS_7 := blk_frozen BKgS.out 7
    have hcgS_8 : W4.cell? ⟨gS, 8, none⟩ = some (.int .i64 (cdig (a * a + b * b) 7)) := (blk_cell BKgS.out 8).trans rfl
    have hfgS_8 := blk_frozen BKgS.out 8
    go_wp2
    go_loopw [4, 5] (fun vn vi wr => ∃ (j : Nat) (N : Int), vn = .int .i64 N ∧ vi = .int .i64 ((j : Int) - 1) ∧ Aside0 (j ≤ 63) ∧ Aside0 (LRel 63 (a * a + b * b) j N) ∧ Aside0 (wr.heap[gS]? = some (.cells #[.bool false, .int .i64 (cdig (a * a + b * b) 0), .int .i64 (cdig (a * a + b * b) 1), .int .i64 (cdig (a * a + b * b) 2), .int .i64 (cdig (a * a + b * b) 3), .int .i64 (cdig (a * a + b * b) 4), .int .i64 (cdig (a * a + b * b) 5), .int .i64 (cdig (a * a + b * b) 6), .int .i64 (cdig (a * a + b * b) 7)] 52 (0, 0))) ∧ Aside0 (Below w.heap.size w wr)) (fun _ vi _ => (intOf vi + 1).toNat)
    case atStart => exact ⟨63, 0, rfl, rfl, ⟨by omega⟩, ⟨LRel.start 63 r3.nonneg⟩, BKgS, HB⟩
    case round =>
      clear BKg1 BKgS HB hcg1_0 hfg1_0 hcg1_1 hfg1_1 hcgS_0 hfgS_0 hcgS_1 hfgS_1 hcgS_2 hfgS_2 hcgS_3 hfgS_3 hcgS_4 hfgS_4 hcgS_5 hfgS_5 hcgS_6 hfgS_6 hcgS_7 hfgS_7 hcgS_8 hfgS_8
      obtain ⟨j, N, rfl, rfl, Hj, HL, BKgS, HB⟩ := hrel
      have hj := Hj.out; have hN0 := HL.out.pos
      cases j with
      | zero =>
        rw [show (((0 : Nat) : Int) - 1) = -1 from rfl]
        go_wp2
        go_ret
        exact ⟨ret_int (by rw [← HS.out]; exact rootOf_eq HL.out), HB.out⟩
      | succ k =>
        rw [show (((k + 1 : Nat) : Int) - 1) = (k : Int) from by omega]
        have ht := HL.out.top; have t1 := two_succ k; have t2 := two_pos k; have t3 := shl_two k (by omega)
        have h63 : two 63 = 9223372036854775808 := by decide
        obtain ⟨V, hV⟩ : ∃ V, V = N + two k := ⟨_, rfl⟩
        have hVI : I64 V := ⟨by omega, by omega⟩
        have hN1 : N + two k ≤ 9223372036854775807 := by omega
        clear ht t1 h63
        have hw : wrap64 (N + wrap64 (2 ^ k)) = V := by
          have e : (2 : Int) ^ k = two k := by unfold two; simp
          rw [e, hV]; unfold wrap64; omega
        have HW := Lib.hid hw; have HV := Lib.hid hV; clear hw hV
        obtain ⟨rV, _⟩ := sq_rep hVI
        go_wp2
        rw [HW.out]
        have hcase : (V * V ≤ a * a + b * b ∧ cmpI (V * V) (a * a + b * b) ≤ 0) ∨ (a * a + b * b < V * V ∧ 0 < cmpI (V * V) (a * a + b * b)) := by
          rcases Int.lt_or_le (a * a + b * b) (V * V) with c | c
          · exact .inr ⟨c, cmp_gt c⟩
          · exact .inl ⟨c, cmp_le c⟩
        have hq0 : ∀ u : Aft wr, u.w.cell? ⟨gS, 0, none⟩ = some (.bool false) := fun u => (blk_cell (blk_below BKgS.out u.below) 0).trans rfl
        have hq1 : ∀ u : Aft wr, u.w.cell? ⟨gS, 1, none⟩ = some (.int .i64 (cdig (a * a + b * b) 0)) := fun u => (blk_cell (blk_below BKgS.out u.below) 1).trans rfl
        have hq2 : ∀ u : Aft wr, u.w.cell? ⟨gS, 2, none⟩ = some (.int .i64 (cdig (a * a + b * b) 1)) := fun u => (blk_cell (blk_below BKgS.out u.below) 2).trans rfl
        have hq3 : ∀ u : Aft wr, u.w.cell? ⟨gS, 3, none⟩ = some (.int .i64 (cdig (a * a + b * b) 2)) := fun u => (blk_cell (blk_below BKgS.out u.below) 3).trans rfl
        have hq4 : ∀ u : Aft wr, u.w.cell? ⟨gS, 4, none⟩ = some (.int .i64 (cdig (a * a + b * b) 3)) := fun u => (blk_cell (blk_below BKgS.out u.below) 4).trans rfl
        have hq5 : ∀ u : Aft wr, u.w.cell? ⟨gS, 5, none⟩ = some (.int .i64 (cdig (a * a + b * b) 4)) := fun u => (blk_cell (blk_below BKgS.out u.below) 5).trans rfl
        have hq6 : ∀ u : Aft wr, u.w.cell? ⟨gS, 6, none⟩ = some (.int .i64 (cdig (a * a + b * b) 5)) := fun u => (blk_cell (blk_below BKgS.out u.below) 6).trans rfl
        have hq7 : ∀ u : Aft wr, u.w.cell? ⟨gS, 7, none⟩ = some (.int .i64 (cdig (a * a + b * b) 6)) := fun u => (blk_cell (blk_below BKgS.out u.below) 7).trans rfl
        have hq8 : ∀ u : Aft wr, u.w.cell? ⟨gS, 8, none⟩ = some (.int .i64 (cdig (a * a + b * b) 7)) := fun u => (blk_cell (blk_below BKgS.out u.below) 8).trans rfl
        refine wp_region_aft (by kernel_rfl) (by kernel_rfl) ?_
        repeat (go_big_quiet_step (fail))
        go_big_quiet_step (refine aft_call (fun w => square_calls V w hVI))
        repeat (go_big_quiet_step (fail))
        go_big_quiet_step (refine aft_call (fun w => compare_ex false false (V * V) (a * a + b * b) w rV r3))
        repeat (go_big_quiet_step (fail))
        refine wpQuiet_nil ?_
        intro WN hb_
        clear hq0 hq1 hq2 hq3 hq4 hq5 hq6 hq7 hq8
        have n_ := Aside0.mk (blk_below BKgS.out hb_); clear BKgS; have BKgS := n_; clear n_
        have n_ := Aside0.mk (below_step HB.out hb_); clear HB; have HB := n_; clear n_ hb_
        rcases hcase with ⟨c1, c2⟩ | ⟨c1, c2⟩
        · go_wp2
          exact ⟨⟨k, V, rfl, rfl, ⟨by omega⟩, ⟨by have := HL.out.take (by rw [← HV.out]; exact c1); rw [HV.out]; exact this⟩, BKgS, HB⟩, by simp [intOf]⟩
        · go_wp2
          exact ⟨⟨k, N, rfl, rfl, ⟨by omega⟩, ⟨HL.out.leave (by rw [← HV.out]; exact c1)⟩, BKgS, HB⟩, by simp [intOf]⟩
end Go.Proofs.Ytjknihjdhccanaa
