/- The walk of VecLong. -/
import Derived.Test.YtjknihjdhccanaaVecG
namespace Go.Proofs.Ytjknihjdhccanaa
open Go.RowKit Go.Proofs.YtjknihjdhccanaaW.PrintWords Go.Proofs.YtjknihjdhccanaaW.PrintLast Go.Proofs.YtjknihjdhccanaaW.PrintMore
set_option linter.unusedVariables false
set_option linter.unusedSimpArgs false

def sizeI (n : Int) : Int := sat (n.natAbs : Int)
theorem lsize_calls (n : Int) (w : World) (hn : I64 n) :
    Calls Try.prog 10 #[.int .i64 n] w fun e w' => e = .returned (.int .i64 (sizeI n)) ∧ ∃ k, w' = w.drewN k := by
  have H := Lib.hid hn
  obtain ⟨h1, h2⟩ := hn
  by_cases h : n = -9223372036854775808
  · have hb : (n == -9223372036854775808) = true := beq_iff_eq.2 h
    have H2 := Lib.hid h
    clear h
    go_enter Try.func10, Try.ntmps10
    go_wp2
    go_ret
    refine ⟨ret_int ?_, 0, rfl⟩
    rw [H2.out]; decide
  · have hb : (n == -9223372036854775808) = false := beq_eq_false_iff_ne.2 h
    have h3 : -9223372036854775807 ≤ n := by omega
    clear h
    go_enter Try.func10, Try.ntmps10
    go_wp2
    all_goals
      go_ret
      refine ⟨ret_int ?_, 0, rfl⟩
      unfold sizeI sat
      repeat' split
      all_goals omega

theorem sq_lt {x y : Int} (hx : 0 ≤ x) (hy : 0 ≤ y) (h : x * x < y * y) : x < y := by
  rcases Int.lt_or_le x y with c | c
  · exact c
  · have := Int.mul_le_mul c c hy hx
    omega
theorem sq_le {x y : Int} (hx : 0 ≤ x) (hy : 0 ≤ y) (h : x * x ≤ y * y) : x ≤ y := by
  rcases Int.lt_or_le y x with c | c
  · have h1 : (y + 1) * (y + 1) ≤ x * x := Int.mul_le_mul c c (by omega) hx
    have e : (y + 1) * (y + 1) = y * y + 2 * y + 1 := by rw [Int.add_mul, Int.mul_add, Int.mul_one, Int.one_mul]; omega
    omega
  · exact c
theorem sum_sq (x y : Int) : (x + y) * (x + y) = x * x + 2 * (x * y) + y * y := by
  rw [Int.add_mul, Int.mul_add, Int.mul_add, Int.mul_comm y x]; omega

structure LongFacts (a b n : Int) : Prop where
  ge1 : sizeI a ≤ n
  ge2 : sizeI b ≤ n
  le : n ≤ sat (sizeI a + sizeI b)
  zero : n = 0 ↔ (a = 0 ∧ b = 0)
  pos : 0 ≤ n
  top : n ≤ 9223372036854775807

theorem long_facts {a b n : Int} (ha : I64 a) (hb : I64 b) (h : LRel 63 (vecS a b) 0 n) : LongFacts a b n := by
  obtain ⟨a1, a2⟩ := ha
  obtain ⟨b1, b2⟩ := hb
  have h0 := h.pos
  have hl := h.low
  have hh := h.high
  have hbd := h.bound.2
  have e2 : two 63 = 9223372036854775808 := by decide
  rw [e2] at hbd hh
  rw [two_zero] at hh
  unfold vecS at hl hh
  have e3 : sizeI a = sat (a.natAbs : Int) := rfl
  have e4 : sizeI b = sat (b.natAbs : Int) := rfl
  have hA : (0 : Int) ≤ (a.natAbs : Int) := by omega
  have hB : (0 : Int) ≤ (b.natAbs : Int) := by omega
  have zA : (a.natAbs : Int) = 0 ↔ a = 0 := by omega
  have zB : (b.natAbs : Int) = 0 ↔ b = 0 := by omega
  have tA : (a.natAbs : Int) ≤ 9223372036854775808 := by omega
  have tB : (b.natAbs : Int) ≤ 9223372036854775808 := by omega
  generalize (a.natAbs : Int) = A at *
  generalize (b.natAbs : Int) = B at *
  have pA := Int.mul_nonneg hA hA
  have pB := Int.mul_nonneg hB hB
  have pAB := Int.mul_nonneg hA hB
  have hs := sum_sq A B
  have hle : n ≤ A + B := sq_le h0 (by omega) (by omega)
  have hcase : n = 9223372036854775807 ∨ (A ≤ n ∧ B ≤ n) := by
    rcases hh with hh | hh
    · left; omega
    · right
      have := sq_lt hA (by omega) (show A * A < (n + 1) * (n + 1) by omega)
      have := sq_lt hB (by omega) (show B * B < (n + 1) * (n + 1) by omega)
      omega
  refine ⟨?_, ?_, ?_, ?_, h0, by omega⟩
  · rw [e3]; unfold sat; (repeat' split) <;> omega
  · rw [e4]; unfold sat; (repeat' split) <;> omega
  · rw [e3, e4]; unfold sat; (repeat' split) <;> omega
  · rw [← zA, ← zB]
    omega

theorem root_one {S n m : Int} (h : LRel 63 S 0 n) (g : LRel 63 S 0 m) : m = n := by
  have key : ∀ {n m : Int}, LRel 63 S 0 n → LRel 63 S 0 m → m ≤ n := by
    intro n m h g
    have hh := h.high
    rw [two_zero] at hh
    have hb := g.bound.2
    rcases hh with hh | hh
    · omega
    · have := sq_lt g.pos (by have := h.pos; omega) (show m * m < (n + 1) * (n + 1) by have := g.low; omega)
      omega
  have := key h g
  have := key g h
  omega
theorem vecS_turned (a b : Int) : vecS (-b) a = vecS a b := by unfold vecS; rw [Int.natAbs_neg]; omega
set_option maxHeartbeats 2000000 in
set_option maxRecDepth 100000 in
theorem veclong_1 (a b : Int) (w : World) (ha : I64 a) (hb : I64 b) (ca : (a == -9223372036854775808) = true) (za : (a == 0) = false) :
    Calls Try.prog 3 #[.agg #[.int .i64 a, .int .i64 b]] w
      fun e w' => e = .returned (.bool true) ∧ Below w.heap.size w w' := by
  have HB := Aside0.mk (Below.refl w.heap.size w)
  have HZ := Lib.hid (show ((a == 0) && (b == 0)) = (decide (a = 0 ∧ b = 0)) from by by_cases p : a = 0 <;> by_cases q : b = 0 <;> simp [p, q])
  go_enter Try.func3, Try.ntmps3
  go_wp2_with (first | ((with_reducible refine gate_dst (N := 1) rfl ?_); refine box_event ?hg (N := 1) ?hd (cs := #[.int .i64 a, .int .i64 b]) (t := 23) ?hr ?_; (case hd => rfl); (case hg => rfl); (case hr => first | (go_simp; done) | (go_simp; rfl)); intro g1 hg_ W1 hbox_ hb_; have GEg1 := Aside0.mk ((by rw [hg_]; exact (below_size HB.out)) : w.heap.size ≤ g1); clear hg_; have n_ := Aside0.mk (below_step HB.out hb_); clear HB; have HB := n_; clear n_; have BKg1 := Aside0.mk hbox_; clear hbox_ hb_; have hcg1_0 : W1.cell? ⟨g1, 0, none⟩ = some (.int .i64 a) := (blk_cell BKg1.out 0).trans rfl; have hfg1_0 := blk_frozen BKg1.out 0; have hcg1_1 : W1.cell? ⟨g1, 1, none⟩ = some (.int .i64 b) := (blk_cell BKg1.out 1).trans rfl; have hfg1_1 := blk_frozen BKg1.out 1))
  ((with_reducible refine (awake_calls _).mono ?_); rintro e_ W2 ⟨rfl, hb_⟩)
  have n_ := Aside0.mk (blk_below BKg1.out hb_); clear BKg1; have BKg1 := n_; clear n_
  clear hcg1_0 hfg1_0
  clear hcg1_1 hfg1_1
  have n_ := Aside0.mk (below_step HB.out hb_); clear HB; have HB := n_; clear n_
  clear hb_
  have hcg1_0 : W2.cell? ⟨g1, 0, none⟩ = some (.int .i64 a) := (blk_cell BKg1.out 0).trans rfl
  have hfg1_0 := blk_frozen BKg1.out 0
  have hcg1_1 : W2.cell? ⟨g1, 1, none⟩ = some (.int .i64 b) := (blk_cell BKg1.out 1).trans rfl
  have hfg1_1 := blk_frozen BKg1.out 1
  go_wp2_with fail
  ((with_reducible refine (long_calls _ _ _ ha hb).mono ?_); rintro e_ W3 ⟨n, rfl, hn, hb_⟩)
  have n_ := Aside0.mk (blk_below BKg1.out hb_); clear BKg1; have BKg1 := n_; clear n_
  clear hcg1_0 hfg1_0
  clear hcg1_1 hfg1_1
  have n_ := Aside0.mk (below_step HB.out hb_); clear HB; have HB := n_; clear n_
  clear hb_
  have hcg1_0 : W3.cell? ⟨g1, 0, none⟩ = some (.int .i64 a) := (blk_cell BKg1.out 0).trans rfl
  have hfg1_0 := blk_frozen BKg1.out 0
  have hcg1_1 : W3.cell? ⟨g1, 1, none⟩ = some (.int .i64 b) := (blk_cell BKg1.out 1).trans rfl
  have hfg1_1 := blk_frozen BKg1.out 1
  go_wp2_with fail
  have hf := long_facts ha hb hn
  have f1 := hf.ge1; have f2 := hf.ge2; have f3 := hf.le; have f5 := hf.pos; have f6 := hf.top
  have f4 : (n == 0) = ((a == 0) && (b == 0)) := by rw [HZ.out, Bool.eq_iff_iff]; simp only [beq_iff_eq, decide_eq_true_eq]; exact hf.zero
  simp only [za, Bool.false_and] at f4
  clear hf
  ((with_reducible refine (lsize_calls _ _ ha).mono ?_); rintro e_ w_ ⟨rfl, ⟨nd_, rfl⟩⟩)
  have n_ := Aside0.mk (blk_drewN BKg1.out nd_); clear BKg1; have BKg1 := n_; clear n_
  clear hcg1_0 hfg1_0
  clear hcg1_1 hfg1_1
  have n_ := Aside0.mk (pw_below_drewN HB.out nd_); clear HB; have HB := n_; clear n_
  generalize W3.drewN nd_ = W4 at *
  have hcg1_0 : W4.cell? ⟨g1, 0, none⟩ = some (.int .i64 a) := (blk_cell BKg1.out 0).trans rfl
  have hfg1_0 := blk_frozen BKg1.out 0
  have hcg1_1 : W4.cell? ⟨g1, 1, none⟩ = some (.int .i64 b) := (blk_cell BKg1.out 1).trans rfl
  have hfg1_1 := blk_frozen BKg1.out 1
  go_wp2_with fail
  ((with_reducible refine (lsize_calls _ _ hb).mono ?_); rintro e_ w_ ⟨rfl, ⟨nd_, rfl⟩⟩)
  have n_ := Aside0.mk (blk_drewN BKg1.out nd_); clear BKg1; have BKg1 := n_; clear n_
  clear hcg1_0 hfg1_0
  clear hcg1_1 hfg1_1
  have n_ := Aside0.mk (pw_below_drewN HB.out nd_); clear HB; have HB := n_; clear n_
  generalize W4.drewN nd_ = W5 at *
  have hcg1_0 : W5.cell? ⟨g1, 0, none⟩ = some (.int .i64 a) := (blk_cell BKg1.out 0).trans rfl
  have hfg1_0 := blk_frozen BKg1.out 0
  have hcg1_1 : W5.cell? ⟨g1, 1, none⟩ = some (.int .i64 b) := (blk_cell BKg1.out 1).trans rfl
  have hfg1_1 := blk_frozen BKg1.out 1
  go_wp2_with fail
  have hsa : I64 (sizeI a) := sat_I64 _
  have hsb : I64 (sizeI b) := sat_I64 _
  ((with_reducible refine (add_calls _ _ _ hsa hsb).mono ?_); rintro e_ w_ ⟨rfl, ⟨nd_, rfl⟩⟩)
  have n_ := Aside0.mk (blk_drewN BKg1.out nd_); clear BKg1; have BKg1 := n_; clear n_
  clear hcg1_0 hfg1_0
  clear hcg1_1 hfg1_1
  have n_ := Aside0.mk (pw_below_drewN HB.out nd_); clear HB; have HB := n_; clear n_
  generalize W5.drewN nd_ = W6 at *
  have hcg1_0 : W6.cell? ⟨g1, 0, none⟩ = some (.int .i64 a) := (blk_cell BKg1.out 0).trans rfl
  have hfg1_0 := blk_frozen BKg1.out 0
  have hcg1_1 : W6.cell? ⟨g1, 1, none⟩ = some (.int .i64 b) := (blk_cell BKg1.out 1).trans rfl
  have hfg1_1 := blk_frozen BKg1.out 1
  go_wp2
  go_ret
  exact ⟨rfl, (by repeat (first | (with_reducible first | exact HB.out | apply below_alloc | apply pw_below_drewN | apply below_drew1) | exact HB.out))⟩
set_option maxHeartbeats 2000000 in
set_option maxRecDepth 100000 in
theorem veclong_2 (a b : Int) (w : World) (ha : I64 a) (hb : I64 b) (ca : (a == -9223372036854775808) = false) (cb : (b == -9223372036854775808) = true) (za : (a == 0) = false) :
    Calls Try.prog 3 #[.agg #[.int .i64 a, .int .i64 b]] w
      fun e w' => e = .returned (.bool true) ∧ Below w.heap.size w w' := by
  have HB := Aside0.mk (Below.refl w.heap.size w)
  have HZ := Lib.hid (show ((a == 0) && (b == 0)) = (decide (a = 0 ∧ b = 0)) from by by_cases p : a = 0 <;> by_cases q : b = 0 <;> simp [p, q])
  go_enter Try.func3, Try.ntmps3
  go_wp2_with (first | ((with_reducible refine gate_dst (N := 1) rfl ?_); refine box_event ?hg (N := 1) ?hd (cs := #[.int .i64 a, .int .i64 b]) (t := 23) ?hr ?_; (case hd => rfl); (case hg => rfl); (case hr => first | (go_simp; done) | (go_simp; rfl)); intro g1 hg_ W1 hbox_ hb_; have GEg1 := Aside0.mk ((by rw [hg_]; exact (below_size HB.out)) : w.heap.size ≤ g1); clear hg_; have n_ := Aside0.mk (below_step HB.out hb_); clear HB; have HB := n_; clear n_; have BKg1 := Aside0.mk hbox_; clear hbox_ hb_; have hcg1_0 : W1.cell? ⟨g1, 0, none⟩ = some (.int .i64 a) := (blk_cell BKg1.out 0).trans rfl; have hfg1_0 := blk_frozen BKg1.out 0; have hcg1_1 : W1.cell? ⟨g1, 1, none⟩ = some (.int .i64 b) := (blk_cell BKg1.out 1).trans rfl; have hfg1_1 := blk_frozen BKg1.out 1))
  ((with_reducible refine (awake_calls _).mono ?_); rintro e_ W2 ⟨rfl, hb_⟩)
  have n_ := Aside0.mk (blk_below BKg1.out hb_); clear BKg1; have BKg1 := n_; clear n_
  clear hcg1_0 hfg1_0
  clear hcg1_1 hfg1_1
  have n_ := Aside0.mk (below_step HB.out hb_); clear HB; have HB := n_; clear n_
  clear hb_
  have hcg1_0 : W2.cell? ⟨g1, 0, none⟩ = some (.int .i64 a) := (blk_cell BKg1.out 0).trans rfl
  have hfg1_0 := blk_frozen BKg1.out 0
  have hcg1_1 : W2.cell? ⟨g1, 1, none⟩ = some (.int .i64 b) := (blk_cell BKg1.out 1).trans rfl
  have hfg1_1 := blk_frozen BKg1.out 1
  go_wp2_with fail
  ((with_reducible refine (long_calls _ _ _ ha hb).mono ?_); rintro e_ W3 ⟨n, rfl, hn, hb_⟩)
  have n_ := Aside0.mk (blk_below BKg1.out hb_); clear BKg1; have BKg1 := n_; clear n_
  clear hcg1_0 hfg1_0
  clear hcg1_1 hfg1_1
  have n_ := Aside0.mk (below_step HB.out hb_); clear HB; have HB := n_; clear n_
  clear hb_
  have hcg1_0 : W3.cell? ⟨g1, 0, none⟩ = some (.int .i64 a) := (blk_cell BKg1.out 0).trans rfl
  have hfg1_0 := blk_frozen BKg1.out 0
  have hcg1_1 : W3.cell? ⟨g1, 1, none⟩ = some (.int .i64 b) := (blk_cell BKg1.out 1).trans rfl
  have hfg1_1 := blk_frozen BKg1.out 1
  go_wp2_with fail
  have hf := long_facts ha hb hn
  have f1 := hf.ge1; have f2 := hf.ge2; have f3 := hf.le; have f5 := hf.pos; have f6 := hf.top
  have f4 : (n == 0) = ((a == 0) && (b == 0)) := by rw [HZ.out, Bool.eq_iff_iff]; simp only [beq_iff_eq, decide_eq_true_eq]; exact hf.zero
  simp only [za, Bool.false_and] at f4
  clear hf
  ((with_reducible refine (lsize_calls _ _ ha).mono ?_); rintro e_ w_ ⟨rfl, ⟨nd_, rfl⟩⟩)
  have n_ := Aside0.mk (blk_drewN BKg1.out nd_); clear BKg1; have BKg1 := n_; clear n_
  clear hcg1_0 hfg1_0
  clear hcg1_1 hfg1_1
  have n_ := Aside0.mk (pw_below_drewN HB.out nd_); clear HB; have HB := n_; clear n_
  generalize W3.drewN nd_ = W4 at *
  have hcg1_0 : W4.cell? ⟨g1, 0, none⟩ = some (.int .i64 a) := (blk_cell BKg1.out 0).trans rfl
  have hfg1_0 := blk_frozen BKg1.out 0
  have hcg1_1 : W4.cell? ⟨g1, 1, none⟩ = some (.int .i64 b) := (blk_cell BKg1.out 1).trans rfl
  have hfg1_1 := blk_frozen BKg1.out 1
  go_wp2_with fail
  ((with_reducible refine (lsize_calls _ _ hb).mono ?_); rintro e_ w_ ⟨rfl, ⟨nd_, rfl⟩⟩)
  have n_ := Aside0.mk (blk_drewN BKg1.out nd_); clear BKg1; have BKg1 := n_; clear n_
  clear hcg1_0 hfg1_0
  clear hcg1_1 hfg1_1
  have n_ := Aside0.mk (pw_below_drewN HB.out nd_); clear HB; have HB := n_; clear n_
  generalize W4.drewN nd_ = W5 at *
  have hcg1_0 : W5.cell? ⟨g1, 0, none⟩ = some (.int .i64 a) := (blk_cell BKg1.out 0).trans rfl
  have hfg1_0 := blk_frozen BKg1.out 0
  have hcg1_1 : W5.cell? ⟨g1, 1, none⟩ = some (.int .i64 b) := (blk_cell BKg1.out 1).trans rfl
  have hfg1_1 := blk_frozen BKg1.out 1
  go_wp2_with fail
  have hsa : I64 (sizeI a) := sat_I64 _
  have hsb : I64 (sizeI b) := sat_I64 _
  ((with_reducible refine (add_calls _ _ _ hsa hsb).mono ?_); rintro e_ w_ ⟨rfl, ⟨nd_, rfl⟩⟩)
  have n_ := Aside0.mk (blk_drewN BKg1.out nd_); clear BKg1; have BKg1 := n_; clear n_
  clear hcg1_0 hfg1_0
  clear hcg1_1 hfg1_1
  have n_ := Aside0.mk (pw_below_drewN HB.out nd_); clear HB; have HB := n_; clear n_
  generalize W5.drewN nd_ = W6 at *
  have hcg1_0 : W6.cell? ⟨g1, 0, none⟩ = some (.int .i64 a) := (blk_cell BKg1.out 0).trans rfl
  have hfg1_0 := blk_frozen BKg1.out 0
  have hcg1_1 : W6.cell? ⟨g1, 1, none⟩ = some (.int .i64 b) := (blk_cell BKg1.out 1).trans rfl
  have hfg1_1 := blk_frozen BKg1.out 1
  go_wp2
  go_ret
  exact ⟨rfl, (by repeat (first | (with_reducible first | exact HB.out | apply below_alloc | apply pw_below_drewN | apply below_drew1) | exact HB.out))⟩
set_option maxHeartbeats 2000000 in
set_option maxRecDepth 100000 in
theorem veclong_3 (a b : Int) (w : World) (ha : I64 a) (hb : I64 b) (ca : (a == -9223372036854775808) = false) (cb : (b == -9223372036854775808) = true) (za : (a == 0) = true) (zb : (b == 0) = false) :
    Calls Try.prog 3 #[.agg #[.int .i64 a, .int .i64 b]] w
      fun e w' => e = .returned (.bool true) ∧ Below w.heap.size w w' := by
  have HB := Aside0.mk (Below.refl w.heap.size w)
  have HZ := Lib.hid (show ((a == 0) && (b == 0)) = (decide (a = 0 ∧ b = 0)) from by by_cases p : a = 0 <;> by_cases q : b = 0 <;> simp [p, q])
  go_enter Try.func3, Try.ntmps3
  go_wp2_with (first | ((with_reducible refine gate_dst (N := 1) rfl ?_); refine box_event ?hg (N := 1) ?hd (cs := #[.int .i64 a, .int .i64 b]) (t := 23) ?hr ?_; (case hd => rfl); (case hg => rfl); (case hr => first | (go_simp; done) | (go_simp; rfl)); intro g1 hg_ W1 hbox_ hb_; have GEg1 := Aside0.mk ((by rw [hg_]; exact (below_size HB.out)) : w.heap.size ≤ g1); clear hg_; have n_ := Aside0.mk (below_step HB.out hb_); clear HB; have HB := n_; clear n_; have BKg1 := Aside0.mk hbox_; clear hbox_ hb_; have hcg1_0 : W1.cell? ⟨g1, 0, none⟩ = some (.int .i64 a) := (blk_cell BKg1.out 0).trans rfl; have hfg1_0 := blk_frozen BKg1.out 0; have hcg1_1 : W1.cell? ⟨g1, 1, none⟩ = some (.int .i64 b) := (blk_cell BKg1.out 1).trans rfl; have hfg1_1 := blk_frozen BKg1.out 1))
  ((with_reducible refine (awake_calls _).mono ?_); rintro e_ W2 ⟨rfl, hb_⟩)
  have n_ := Aside0.mk (blk_below BKg1.out hb_); clear BKg1; have BKg1 := n_; clear n_
  clear hcg1_0 hfg1_0
  clear hcg1_1 hfg1_1
  have n_ := Aside0.mk (below_step HB.out hb_); clear HB; have HB := n_; clear n_
  clear hb_
  have hcg1_0 : W2.cell? ⟨g1, 0, none⟩ = some (.int .i64 a) := (blk_cell BKg1.out 0).trans rfl
  have hfg1_0 := blk_frozen BKg1.out 0
  have hcg1_1 : W2.cell? ⟨g1, 1, none⟩ = some (.int .i64 b) := (blk_cell BKg1.out 1).trans rfl
  have hfg1_1 := blk_frozen BKg1.out 1
  go_wp2_with fail
  ((with_reducible refine (long_calls _ _ _ ha hb).mono ?_); rintro e_ W3 ⟨n, rfl, hn, hb_⟩)
  have n_ := Aside0.mk (blk_below BKg1.out hb_); clear BKg1; have BKg1 := n_; clear n_
  clear hcg1_0 hfg1_0
  clear hcg1_1 hfg1_1
  have n_ := Aside0.mk (below_step HB.out hb_); clear HB; have HB := n_; clear n_
  clear hb_
  have hcg1_0 : W3.cell? ⟨g1, 0, none⟩ = some (.int .i64 a) := (blk_cell BKg1.out 0).trans rfl
  have hfg1_0 := blk_frozen BKg1.out 0
  have hcg1_1 : W3.cell? ⟨g1, 1, none⟩ = some (.int .i64 b) := (blk_cell BKg1.out 1).trans rfl
  have hfg1_1 := blk_frozen BKg1.out 1
  go_wp2_with fail
  have hf := long_facts ha hb hn
  have f1 := hf.ge1; have f2 := hf.ge2; have f3 := hf.le; have f5 := hf.pos; have f6 := hf.top
  have f4 : (n == 0) = ((a == 0) && (b == 0)) := by rw [HZ.out, Bool.eq_iff_iff]; simp only [beq_iff_eq, decide_eq_true_eq]; exact hf.zero
  simp only [za, zb, Bool.and_true, Bool.and_false, Bool.false_and, Bool.true_and] at f4
  clear hf
  ((with_reducible refine (lsize_calls _ _ ha).mono ?_); rintro e_ w_ ⟨rfl, ⟨nd_, rfl⟩⟩)
  have n_ := Aside0.mk (blk_drewN BKg1.out nd_); clear BKg1; have BKg1 := n_; clear n_
  clear hcg1_0 hfg1_0
  clear hcg1_1 hfg1_1
  have n_ := Aside0.mk (pw_below_drewN HB.out nd_); clear HB; have HB := n_; clear n_
  generalize W3.drewN nd_ = W4 at *
  have hcg1_0 : W4.cell? ⟨g1, 0, none⟩ = some (.int .i64 a) := (blk_cell BKg1.out 0).trans rfl
  have hfg1_0 := blk_frozen BKg1.out 0
  have hcg1_1 : W4.cell? ⟨g1, 1, none⟩ = some (.int .i64 b) := (blk_cell BKg1.out 1).trans rfl
  have hfg1_1 := blk_frozen BKg1.out 1
  go_wp2_with fail
  ((with_reducible refine (lsize_calls _ _ hb).mono ?_); rintro e_ w_ ⟨rfl, ⟨nd_, rfl⟩⟩)
  have n_ := Aside0.mk (blk_drewN BKg1.out nd_); clear BKg1; have BKg1 := n_; clear n_
  clear hcg1_0 hfg1_0
  clear hcg1_1 hfg1_1
  have n_ := Aside0.mk (pw_below_drewN HB.out nd_); clear HB; have HB := n_; clear n_
  generalize W4.drewN nd_ = W5 at *
  have hcg1_0 : W5.cell? ⟨g1, 0, none⟩ = some (.int .i64 a) := (blk_cell BKg1.out 0).trans rfl
  have hfg1_0 := blk_frozen BKg1.out 0
  have hcg1_1 : W5.cell? ⟨g1, 1, none⟩ = some (.int .i64 b) := (blk_cell BKg1.out 1).trans rfl
  have hfg1_1 := blk_frozen BKg1.out 1
  go_wp2_with fail
  have hsa : I64 (sizeI a) := sat_I64 _
  have hsb : I64 (sizeI b) := sat_I64 _
  ((with_reducible refine (add_calls _ _ _ hsa hsb).mono ?_); rintro e_ w_ ⟨rfl, ⟨nd_, rfl⟩⟩)
  have n_ := Aside0.mk (blk_drewN BKg1.out nd_); clear BKg1; have BKg1 := n_; clear n_
  clear hcg1_0 hfg1_0
  clear hcg1_1 hfg1_1
  have n_ := Aside0.mk (pw_below_drewN HB.out nd_); clear HB; have HB := n_; clear n_
  generalize W5.drewN nd_ = W6 at *
  have hcg1_0 : W6.cell? ⟨g1, 0, none⟩ = some (.int .i64 a) := (blk_cell BKg1.out 0).trans rfl
  have hfg1_0 := blk_frozen BKg1.out 0
  have hcg1_1 : W6.cell? ⟨g1, 1, none⟩ = some (.int .i64 b) := (blk_cell BKg1.out 1).trans rfl
  have hfg1_1 := blk_frozen BKg1.out 1
  go_wp2
  go_ret
  exact ⟨rfl, (by repeat (first | (with_reducible first | exact HB.out | apply below_alloc | apply pw_below_drewN | apply below_drew1) | exact HB.out))⟩
set_option maxHeartbeats 2000000 in
set_option maxRecDepth 100000 in
theorem veclong_4 (a b : Int) (w : World) (ha : I64 a) (hb : I64 b) (ca : (a == -9223372036854775808) = false) (cb : (b == -9223372036854775808) = false) (za : (a == 0) = false) :
    Calls Try.prog 3 #[.agg #[.int .i64 a, .int .i64 b]] w
      fun e w' => e = .returned (.bool true) ∧ Below w.heap.size w w' := by
  have HB := Aside0.mk (Below.refl w.heap.size w)
  have hb3 : -9223372036854775807 ≤ b := by have := hb.1; have := beq_eq_false_iff_ne.1 cb; omega
  have hb4 : b ≤ 9223372036854775807 := hb.2
  have hnb : I64 (-b) := ⟨by omega, by omega⟩
  have HZ := Lib.hid (show ((a == 0) && (b == 0)) = (decide (a = 0 ∧ b = 0)) from by by_cases p : a = 0 <;> by_cases q : b = 0 <;> simp [p, q])
  go_enter Try.func3, Try.ntmps3
  go_wp2_with (first | ((with_reducible refine gate_dst (N := 1) rfl ?_); refine box_event ?hg (N := 1) ?hd (cs := #[.int .i64 a, .int .i64 b]) (t := 23) ?hr ?_; (case hd => rfl); (case hg => rfl); (case hr => first | (go_simp; done) | (go_simp; rfl)); intro g1 hg_ W1 hbox_ hb_; have GEg1 := Aside0.mk ((by rw [hg_]; exact (below_size HB.out)) : w.heap.size ≤ g1); clear hg_; have n_ := Aside0.mk (below_step HB.out hb_); clear HB; have HB := n_; clear n_; have BKg1 := Aside0.mk hbox_; clear hbox_ hb_; have hcg1_0 : W1.cell? ⟨g1, 0, none⟩ = some (.int .i64 a) := (blk_cell BKg1.out 0).trans rfl; have hfg1_0 := blk_frozen BKg1.out 0; have hcg1_1 : W1.cell? ⟨g1, 1, none⟩ = some (.int .i64 b) := (blk_cell BKg1.out 1).trans rfl; have hfg1_1 := blk_frozen BKg1.out 1))
  ((with_reducible refine (awake_calls _).mono ?_); rintro e_ W2 ⟨rfl, hb_⟩)
  have n_ := Aside0.mk (blk_below BKg1.out hb_); clear BKg1; have BKg1 := n_; clear n_
  clear hcg1_0 hfg1_0
  clear hcg1_1 hfg1_1
  have n_ := Aside0.mk (below_step HB.out hb_); clear HB; have HB := n_; clear n_
  clear hb_
  have hcg1_0 : W2.cell? ⟨g1, 0, none⟩ = some (.int .i64 a) := (blk_cell BKg1.out 0).trans rfl
  have hfg1_0 := blk_frozen BKg1.out 0
  have hcg1_1 : W2.cell? ⟨g1, 1, none⟩ = some (.int .i64 b) := (blk_cell BKg1.out 1).trans rfl
  have hfg1_1 := blk_frozen BKg1.out 1
  go_wp2_with fail
  ((with_reducible refine (long_calls _ _ _ ha hb).mono ?_); rintro e_ W3 ⟨n, rfl, hn, hb_⟩)
  have n_ := Aside0.mk (blk_below BKg1.out hb_); clear BKg1; have BKg1 := n_; clear n_
  clear hcg1_0 hfg1_0
  clear hcg1_1 hfg1_1
  have n_ := Aside0.mk (below_step HB.out hb_); clear HB; have HB := n_; clear n_
  clear hb_
  have hcg1_0 : W3.cell? ⟨g1, 0, none⟩ = some (.int .i64 a) := (blk_cell BKg1.out 0).trans rfl
  have hfg1_0 := blk_frozen BKg1.out 0
  have hcg1_1 : W3.cell? ⟨g1, 1, none⟩ = some (.int .i64 b) := (blk_cell BKg1.out 1).trans rfl
  have hfg1_1 := blk_frozen BKg1.out 1
  go_wp2_with fail
  have hf := long_facts ha hb hn
  have f1 := hf.ge1; have f2 := hf.ge2; have f3 := hf.le; have f5 := hf.pos; have f6 := hf.top
  have f4 : (n == 0) = ((a == 0) && (b == 0)) := by rw [HZ.out, Bool.eq_iff_iff]; simp only [beq_iff_eq, decide_eq_true_eq]; exact hf.zero
  simp only [za, Bool.false_and] at f4
  clear hf
  ((with_reducible refine (lsize_calls _ _ ha).mono ?_); rintro e_ w_ ⟨rfl, ⟨nd_, rfl⟩⟩)
  have n_ := Aside0.mk (blk_drewN BKg1.out nd_); clear BKg1; have BKg1 := n_; clear n_
  clear hcg1_0 hfg1_0
  clear hcg1_1 hfg1_1
  have n_ := Aside0.mk (pw_below_drewN HB.out nd_); clear HB; have HB := n_; clear n_
  generalize W3.drewN nd_ = W4 at *
  have hcg1_0 : W4.cell? ⟨g1, 0, none⟩ = some (.int .i64 a) := (blk_cell BKg1.out 0).trans rfl
  have hfg1_0 := blk_frozen BKg1.out 0
  have hcg1_1 : W4.cell? ⟨g1, 1, none⟩ = some (.int .i64 b) := (blk_cell BKg1.out 1).trans rfl
  have hfg1_1 := blk_frozen BKg1.out 1
  go_wp2_with fail
  ((with_reducible refine (lsize_calls _ _ hb).mono ?_); rintro e_ w_ ⟨rfl, ⟨nd_, rfl⟩⟩)
  have n_ := Aside0.mk (blk_drewN BKg1.out nd_); clear BKg1; have BKg1 := n_; clear n_
  clear hcg1_0 hfg1_0
  clear hcg1_1 hfg1_1
  have n_ := Aside0.mk (pw_below_drewN HB.out nd_); clear HB; have HB := n_; clear n_
  generalize W4.drewN nd_ = W5 at *
  have hcg1_0 : W5.cell? ⟨g1, 0, none⟩ = some (.int .i64 a) := (blk_cell BKg1.out 0).trans rfl
  have hfg1_0 := blk_frozen BKg1.out 0
  have hcg1_1 : W5.cell? ⟨g1, 1, none⟩ = some (.int .i64 b) := (blk_cell BKg1.out 1).trans rfl
  have hfg1_1 := blk_frozen BKg1.out 1
  go_wp2_with fail
  ((with_reducible refine (long_calls _ _ _ hnb ha).mono ?_); rintro e_ W6 ⟨n2, rfl, hn2, hb_⟩)
  have n_ := Aside0.mk (blk_below BKg1.out hb_); clear BKg1; have BKg1 := n_; clear n_
  clear hcg1_0 hfg1_0
  clear hcg1_1 hfg1_1
  have n_ := Aside0.mk (below_step HB.out hb_); clear HB; have HB := n_; clear n_
  clear hb_
  have hcg1_0 : W6.cell? ⟨g1, 0, none⟩ = some (.int .i64 a) := (blk_cell BKg1.out 0).trans rfl
  have hfg1_0 := blk_frozen BKg1.out 0
  have hcg1_1 : W6.cell? ⟨g1, 1, none⟩ = some (.int .i64 b) := (blk_cell BKg1.out 1).trans rfl
  have hfg1_1 := blk_frozen BKg1.out 1
  have hn3 : LRel 63 (vecS a b) 0 n2 := by rw [← vecS_turned]; exact hn2
  obtain rfl : n2 = n := root_one hn hn3
  go_wp2_with fail
  have hsa : I64 (sizeI a) := sat_I64 _
  have hsb : I64 (sizeI b) := sat_I64 _
  ((with_reducible refine (add_calls _ _ _ hsa hsb).mono ?_); rintro e_ w_ ⟨rfl, ⟨nd_, rfl⟩⟩)
  have n_ := Aside0.mk (blk_drewN BKg1.out nd_); clear BKg1; have BKg1 := n_; clear n_
  clear hcg1_0 hfg1_0
  clear hcg1_1 hfg1_1
  have n_ := Aside0.mk (pw_below_drewN HB.out nd_); clear HB; have HB := n_; clear n_
  generalize W6.drewN nd_ = W7 at *
  have hcg1_0 : W7.cell? ⟨g1, 0, none⟩ = some (.int .i64 a) := (blk_cell BKg1.out 0).trans rfl
  have hfg1_0 := blk_frozen BKg1.out 0
  have hcg1_1 : W7.cell? ⟨g1, 1, none⟩ = some (.int .i64 b) := (blk_cell BKg1.out 1).trans rfl
  have hfg1_1 := blk_frozen BKg1.out 1
  go_wp2
  go_ret
  exact ⟨rfl, (by repeat (first | (with_reducible first | exact HB.out | apply below_alloc | apply pw_below_drewN | apply below_drew1) | exact HB.out))⟩
set_option maxHeartbeats 2000000 in
set_option maxRecDepth 100000 in
theorem veclong_5 (a b : Int) (w : World) (ha : I64 a) (hb : I64 b) (ca : (a == -9223372036854775808) = false) (cb : (b == -9223372036854775808) = false) (za : (a == 0) = true) (zb : (b == 0) = false) :
    Calls Try.prog 3 #[.agg #[.int .i64 a, .int .i64 b]] w
      fun e w' => e = .returned (.bool true) ∧ Below w.heap.size w w' := by
  have HB := Aside0.mk (Below.refl w.heap.size w)
  have hb3 : -9223372036854775807 ≤ b := by have := hb.1; have := beq_eq_false_iff_ne.1 cb; omega
  have hb4 : b ≤ 9223372036854775807 := hb.2
  have hnb : I64 (-b) := ⟨by omega, by omega⟩
  have HZ := Lib.hid (show ((a == 0) && (b == 0)) = (decide (a = 0 ∧ b = 0)) from by by_cases p : a = 0 <;> by_cases q : b = 0 <;> simp [p, q])
  go_enter Try.func3, Try.ntmps3
  go_wp2_with (first | ((with_reducible refine gate_dst (N := 1) rfl ?_); refine box_event ?hg (N := 1) ?hd (cs := #[.int .i64 a, .int .i64 b]) (t := 23) ?hr ?_; (case hd => rfl); (case hg => rfl); (case hr => first | (go_simp; done) | (go_simp; rfl)); intro g1 hg_ W1 hbox_ hb_; have GEg1 := Aside0.mk ((by rw [hg_]; exact (below_size HB.out)) : w.heap.size ≤ g1); clear hg_; have n_ := Aside0.mk (below_step HB.out hb_); clear HB; have HB := n_; clear n_; have BKg1 := Aside0.mk hbox_; clear hbox_ hb_; have hcg1_0 : W1.cell? ⟨g1, 0, none⟩ = some (.int .i64 a) := (blk_cell BKg1.out 0).trans rfl; have hfg1_0 := blk_frozen BKg1.out 0; have hcg1_1 : W1.cell? ⟨g1, 1, none⟩ = some (.int .i64 b) := (blk_cell BKg1.out 1).trans rfl; have hfg1_1 := blk_frozen BKg1.out 1))
  ((with_reducible refine (awake_calls _).mono ?_); rintro e_ W2 ⟨rfl, hb_⟩)
  have n_ := Aside0.mk (blk_below BKg1.out hb_); clear BKg1; have BKg1 := n_; clear n_
  clear hcg1_0 hfg1_0
  clear hcg1_1 hfg1_1
  have n_ := Aside0.mk (below_step HB.out hb_); clear HB; have HB := n_; clear n_
  clear hb_
  have hcg1_0 : W2.cell? ⟨g1, 0, none⟩ = some (.int .i64 a) := (blk_cell BKg1.out 0).trans rfl
  have hfg1_0 := blk_frozen BKg1.out 0
  have hcg1_1 : W2.cell? ⟨g1, 1, none⟩ = some (.int .i64 b) := (blk_cell BKg1.out 1).trans rfl
  have hfg1_1 := blk_frozen BKg1.out 1
  go_wp2_with fail
  ((with_reducible refine (long_calls _ _ _ ha hb).mono ?_); rintro e_ W3 ⟨n, rfl, hn, hb_⟩)
  have n_ := Aside0.mk (blk_below BKg1.out hb_); clear BKg1; have BKg1 := n_; clear n_
  clear hcg1_0 hfg1_0
  clear hcg1_1 hfg1_1
  have n_ := Aside0.mk (below_step HB.out hb_); clear HB; have HB := n_; clear n_
  clear hb_
  have hcg1_0 : W3.cell? ⟨g1, 0, none⟩ = some (.int .i64 a) := (blk_cell BKg1.out 0).trans rfl
  have hfg1_0 := blk_frozen BKg1.out 0
  have hcg1_1 : W3.cell? ⟨g1, 1, none⟩ = some (.int .i64 b) := (blk_cell BKg1.out 1).trans rfl
  have hfg1_1 := blk_frozen BKg1.out 1
  go_wp2_with fail
  have hf := long_facts ha hb hn
  have f1 := hf.ge1; have f2 := hf.ge2; have f3 := hf.le; have f5 := hf.pos; have f6 := hf.top
  have f4 : (n == 0) = ((a == 0) && (b == 0)) := by rw [HZ.out, Bool.eq_iff_iff]; simp only [beq_iff_eq, decide_eq_true_eq]; exact hf.zero
  simp only [za, zb, Bool.and_true, Bool.and_false, Bool.false_and, Bool.true_and] at f4
  clear hf
  ((with_reducible refine (lsize_calls _ _ ha).mono ?_); rintro e_ w_ ⟨rfl, ⟨nd_, rfl⟩⟩)
  have n_ := Aside0.mk (blk_drewN BKg1.out nd_); clear BKg1; have BKg1 := n_; clear n_
  clear hcg1_0 hfg1_0
  clear hcg1_1 hfg1_1
  have n_ := Aside0.mk (pw_below_drewN HB.out nd_); clear HB; have HB := n_; clear n_
  generalize W3.drewN nd_ = W4 at *
  have hcg1_0 : W4.cell? ⟨g1, 0, none⟩ = some (.int .i64 a) := (blk_cell BKg1.out 0).trans rfl
  have hfg1_0 := blk_frozen BKg1.out 0
  have hcg1_1 : W4.cell? ⟨g1, 1, none⟩ = some (.int .i64 b) := (blk_cell BKg1.out 1).trans rfl
  have hfg1_1 := blk_frozen BKg1.out 1
  go_wp2_with fail
  ((with_reducible refine (lsize_calls _ _ hb).mono ?_); rintro e_ w_ ⟨rfl, ⟨nd_, rfl⟩⟩)
  have n_ := Aside0.mk (blk_drewN BKg1.out nd_); clear BKg1; have BKg1 := n_; clear n_
  clear hcg1_0 hfg1_0
  clear hcg1_1 hfg1_1
  have n_ := Aside0.mk (pw_below_drewN HB.out nd_); clear HB; have HB := n_; clear n_
  generalize W4.drewN nd_ = W5 at *
  have hcg1_0 : W5.cell? ⟨g1, 0, none⟩ = some (.int .i64 a) := (blk_cell BKg1.out 0).trans rfl
  have hfg1_0 := blk_frozen BKg1.out 0
  have hcg1_1 : W5.cell? ⟨g1, 1, none⟩ = some (.int .i64 b) := (blk_cell BKg1.out 1).trans rfl
  have hfg1_1 := blk_frozen BKg1.out 1
  go_wp2_with fail
  ((with_reducible refine (long_calls _ _ _ hnb ha).mono ?_); rintro e_ W6 ⟨n2, rfl, hn2, hb_⟩)
  have n_ := Aside0.mk (blk_below BKg1.out hb_); clear BKg1; have BKg1 := n_; clear n_
  clear hcg1_0 hfg1_0
  clear hcg1_1 hfg1_1
  have n_ := Aside0.mk (below_step HB.out hb_); clear HB; have HB := n_; clear n_
  clear hb_
  have hcg1_0 : W6.cell? ⟨g1, 0, none⟩ = some (.int .i64 a) := (blk_cell BKg1.out 0).trans rfl
  have hfg1_0 := blk_frozen BKg1.out 0
  have hcg1_1 : W6.cell? ⟨g1, 1, none⟩ = some (.int .i64 b) := (blk_cell BKg1.out 1).trans rfl
  have hfg1_1 := blk_frozen BKg1.out 1
  have hn3 : LRel 63 (vecS a b) 0 n2 := by rw [← vecS_turned]; exact hn2
  obtain rfl : n2 = n := root_one hn hn3
  go_wp2_with fail
  have hsa : I64 (sizeI a) := sat_I64 _
  have hsb : I64 (sizeI b) := sat_I64 _
  ((with_reducible refine (add_calls _ _ _ hsa hsb).mono ?_); rintro e_ w_ ⟨rfl, ⟨nd_, rfl⟩⟩)
  have n_ := Aside0.mk (blk_drewN BKg1.out nd_); clear BKg1; have BKg1 := n_; clear n_
  clear hcg1_0 hfg1_0
  clear hcg1_1 hfg1_1
  have n_ := Aside0.mk (pw_below_drewN HB.out nd_); clear HB; have HB := n_; clear n_
  generalize W6.drewN nd_ = W7 at *
  have hcg1_0 : W7.cell? ⟨g1, 0, none⟩ = some (.int .i64 a) := (blk_cell BKg1.out 0).trans rfl
  have hfg1_0 := blk_frozen BKg1.out 0
  have hcg1_1 : W7.cell? ⟨g1, 1, none⟩ = some (.int .i64 b) := (blk_cell BKg1.out 1).trans rfl
  have hfg1_1 := blk_frozen BKg1.out 1
  go_wp2
  go_ret
  exact ⟨rfl, (by repeat (first | (with_reducible first | exact HB.out | apply below_alloc | apply pw_below_drewN | apply below_drew1) | exact HB.out))⟩
set_option maxHeartbeats 2000000 in
set_option maxRecDepth 100000 in
theorem veclong_6 (a b : Int) (w : World) (ha : I64 a) (hb : I64 b) (ca : (a == -9223372036854775808) = false) (cb : (b == -9223372036854775808) = false) (za : (a == 0) = true) (zb : (b == 0) = true) :
    Calls Try.prog 3 #[.agg #[.int .i64 a, .int .i64 b]] w
      fun e w' => e = .returned (.bool true) ∧ Below w.heap.size w w' := by
  have HB := Aside0.mk (Below.refl w.heap.size w)
  have hb3 : -9223372036854775807 ≤ b := by have := hb.1; have := beq_eq_false_iff_ne.1 cb; omega
  have hb4 : b ≤ 9223372036854775807 := hb.2
  have hnb : I64 (-b) := ⟨by omega, by omega⟩
  have HZ := Lib.hid (show ((a == 0) && (b == 0)) = (decide (a = 0 ∧ b = 0)) from by by_cases p : a = 0 <;> by_cases q : b = 0 <;> simp [p, q])
  go_enter Try.func3, Try.ntmps3
  go_wp2_with (first | ((with_reducible refine gate_dst (N := 1) rfl ?_); refine box_event ?hg (N := 1) ?hd (cs := #[.int .i64 a, .int .i64 b]) (t := 23) ?hr ?_; (case hd => rfl); (case hg => rfl); (case hr => first | (go_simp; done) | (go_simp; rfl)); intro g1 hg_ W1 hbox_ hb_; have GEg1 := Aside0.mk ((by rw [hg_]; exact (below_size HB.out)) : w.heap.size ≤ g1); clear hg_; have n_ := Aside0.mk (below_step HB.out hb_); clear HB; have HB := n_; clear n_; have BKg1 := Aside0.mk hbox_; clear hbox_ hb_; have hcg1_0 : W1.cell? ⟨g1, 0, none⟩ = some (.int .i64 a) := (blk_cell BKg1.out 0).trans rfl; have hfg1_0 := blk_frozen BKg1.out 0; have hcg1_1 : W1.cell? ⟨g1, 1, none⟩ = some (.int .i64 b) := (blk_cell BKg1.out 1).trans rfl; have hfg1_1 := blk_frozen BKg1.out 1))
  ((with_reducible refine (awake_calls _).mono ?_); rintro e_ W2 ⟨rfl, hb_⟩)
  have n_ := Aside0.mk (blk_below BKg1.out hb_); clear BKg1; have BKg1 := n_; clear n_
  clear hcg1_0 hfg1_0
  clear hcg1_1 hfg1_1
  have n_ := Aside0.mk (below_step HB.out hb_); clear HB; have HB := n_; clear n_
  clear hb_
  have hcg1_0 : W2.cell? ⟨g1, 0, none⟩ = some (.int .i64 a) := (blk_cell BKg1.out 0).trans rfl
  have hfg1_0 := blk_frozen BKg1.out 0
  have hcg1_1 : W2.cell? ⟨g1, 1, none⟩ = some (.int .i64 b) := (blk_cell BKg1.out 1).trans rfl
  have hfg1_1 := blk_frozen BKg1.out 1
  go_wp2_with fail
  ((with_reducible refine (long_calls _ _ _ ha hb).mono ?_); rintro e_ W3 ⟨n, rfl, hn, hb_⟩)
  have n_ := Aside0.mk (blk_below BKg1.out hb_); clear BKg1; have BKg1 := n_; clear n_
  clear hcg1_0 hfg1_0
  clear hcg1_1 hfg1_1
  have n_ := Aside0.mk (below_step HB.out hb_); clear HB; have HB := n_; clear n_
  clear hb_
  have hcg1_0 : W3.cell? ⟨g1, 0, none⟩ = some (.int .i64 a) := (blk_cell BKg1.out 0).trans rfl
  have hfg1_0 := blk_frozen BKg1.out 0
  have hcg1_1 : W3.cell? ⟨g1, 1, none⟩ = some (.int .i64 b) := (blk_cell BKg1.out 1).trans rfl
  have hfg1_1 := blk_frozen BKg1.out 1
  go_wp2_with fail
  have hf := long_facts ha hb hn
  have f1 := hf.ge1; have f2 := hf.ge2; have f3 := hf.le; have f5 := hf.pos; have f6 := hf.top
  have f4 : (n == 0) = ((a == 0) && (b == 0)) := by rw [HZ.out, Bool.eq_iff_iff]; simp only [beq_iff_eq, decide_eq_true_eq]; exact hf.zero
  simp only [za, zb, Bool.and_true, Bool.and_false, Bool.false_and, Bool.true_and] at f4
  clear hf
  ((with_reducible refine (lsize_calls _ _ ha).mono ?_); rintro e_ w_ ⟨rfl, ⟨nd_, rfl⟩⟩)
  have n_ := Aside0.mk (blk_drewN BKg1.out nd_); clear BKg1; have BKg1 := n_; clear n_
  clear hcg1_0 hfg1_0
  clear hcg1_1 hfg1_1
  have n_ := Aside0.mk (pw_below_drewN HB.out nd_); clear HB; have HB := n_; clear n_
  generalize W3.drewN nd_ = W4 at *
  have hcg1_0 : W4.cell? ⟨g1, 0, none⟩ = some (.int .i64 a) := (blk_cell BKg1.out 0).trans rfl
  have hfg1_0 := blk_frozen BKg1.out 0
  have hcg1_1 : W4.cell? ⟨g1, 1, none⟩ = some (.int .i64 b) := (blk_cell BKg1.out 1).trans rfl
  have hfg1_1 := blk_frozen BKg1.out 1
  go_wp2_with fail
  ((with_reducible refine (lsize_calls _ _ hb).mono ?_); rintro e_ w_ ⟨rfl, ⟨nd_, rfl⟩⟩)
  have n_ := Aside0.mk (blk_drewN BKg1.out nd_); clear BKg1; have BKg1 := n_; clear n_
  clear hcg1_0 hfg1_0
  clear hcg1_1 hfg1_1
  have n_ := Aside0.mk (pw_below_drewN HB.out nd_); clear HB; have HB := n_; clear n_
  generalize W4.drewN nd_ = W5 at *
  have hcg1_0 : W5.cell? ⟨g1, 0, none⟩ = some (.int .i64 a) := (blk_cell BKg1.out 0).trans rfl
  have hfg1_0 := blk_frozen BKg1.out 0
  have hcg1_1 : W5.cell? ⟨g1, 1, none⟩ = some (.int .i64 b) := (blk_cell BKg1.out 1).trans rfl
  have hfg1_1 := blk_frozen BKg1.out 1
  go_wp2_with fail
  ((with_reducible refine (long_calls _ _ _ hnb ha).mono ?_); rintro e_ W6 ⟨n2, rfl, hn2, hb_⟩)
  have n_ := Aside0.mk (blk_below BKg1.out hb_); clear BKg1; have BKg1 := n_; clear n_
  clear hcg1_0 hfg1_0
  clear hcg1_1 hfg1_1
  have n_ := Aside0.mk (below_step HB.out hb_); clear HB; have HB := n_; clear n_
  clear hb_
  have hcg1_0 : W6.cell? ⟨g1, 0, none⟩ = some (.int .i64 a) := (blk_cell BKg1.out 0).trans rfl
  have hfg1_0 := blk_frozen BKg1.out 0
  have hcg1_1 : W6.cell? ⟨g1, 1, none⟩ = some (.int .i64 b) := (blk_cell BKg1.out 1).trans rfl
  have hfg1_1 := blk_frozen BKg1.out 1
  have hn3 : LRel 63 (vecS a b) 0 n2 := by rw [← vecS_turned]; exact hn2
  obtain rfl : n2 = n := root_one hn hn3
  go_wp2_with fail
  have hsa : I64 (sizeI a) := sat_I64 _
  have hsb : I64 (sizeI b) := sat_I64 _
  ((with_reducible refine (add_calls _ _ _ hsa hsb).mono ?_); rintro e_ w_ ⟨rfl, ⟨nd_, rfl⟩⟩)
  have n_ := Aside0.mk (blk_drewN BKg1.out nd_); clear BKg1; have BKg1 := n_; clear n_
  clear hcg1_0 hfg1_0
  clear hcg1_1 hfg1_1
  have n_ := Aside0.mk (pw_below_drewN HB.out nd_); clear HB; have HB := n_; clear n_
  generalize W6.drewN nd_ = W7 at *
  have hcg1_0 : W7.cell? ⟨g1, 0, none⟩ = some (.int .i64 a) := (blk_cell BKg1.out 0).trans rfl
  have hfg1_0 := blk_frozen BKg1.out 0
  have hcg1_1 : W7.cell? ⟨g1, 1, none⟩ = some (.int .i64 b) := (blk_cell BKg1.out 1).trans rfl
  have hfg1_1 := blk_frozen BKg1.out 1
  go_wp2
  go_ret
  exact ⟨rfl, (by repeat (first | (with_reducible first | exact HB.out | apply below_alloc | apply pw_below_drewN | apply below_drew1) | exact HB.out))⟩

theorem veclong_any (a b : Int) (w : World) (ha : I64 a) (hb : I64 b) :
    Calls Try.prog 3 #[.agg #[.int .i64 a, .int .i64 b]] w fun e w' => e = .returned (.bool true) ∧ Below w.heap.size w w' := by
  by_cases ca : a = -9223372036854775808
  · exact veclong_1 a b w ha hb (beq_iff_eq.2 ca) (beq_eq_false_iff_ne.2 (by omega))
  · by_cases cb : b = -9223372036854775808
    · by_cases za : a = 0
      · exact veclong_3 a b w ha hb (beq_eq_false_iff_ne.2 ca) (beq_iff_eq.2 cb) (beq_iff_eq.2 za) (beq_eq_false_iff_ne.2 (by omega))
      · exact veclong_2 a b w ha hb (beq_eq_false_iff_ne.2 ca) (beq_iff_eq.2 cb) (beq_eq_false_iff_ne.2 za)
    · by_cases za : a = 0
      · by_cases zb : b = 0
        · exact veclong_6 a b w ha hb (beq_eq_false_iff_ne.2 ca) (beq_eq_false_iff_ne.2 cb) (beq_iff_eq.2 za) (beq_iff_eq.2 zb)
        · exact veclong_5 a b w ha hb (beq_eq_false_iff_ne.2 ca) (beq_eq_false_iff_ne.2 cb) (beq_iff_eq.2 za) (beq_eq_false_iff_ne.2 zb)
      · exact veclong_4 a b w ha hb (beq_eq_false_iff_ne.2 ca) (beq_eq_false_iff_ne.2 cb) (beq_eq_false_iff_ne.2 za)
end Go.Proofs.Ytjknihjdhccanaa
