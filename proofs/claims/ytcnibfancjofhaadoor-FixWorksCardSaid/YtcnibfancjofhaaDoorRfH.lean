/- The reference's great numbers: Div, From, To, Sqrt. -/
import Derived.Test.YtcnibfancjofhaaDoorRfG
import Derived.Test.YtcnibfancjofhaaDoorFpQ
namespace Go.Proofs.YtcnibfancjofhaaDoor
open Go.RowKit Go.Proofs.YtcnibfancjofhaaDoorW.PrintWords Go.Proofs.YtcnibfancjofhaaDoorW.PrintLast Go.Proofs.YtcnibfancjofhaaDoorW.PrintMore
set_option linter.unusedVariables false
set_option linter.unusedSimpArgs false
theorem of_p (n : Int) (w : World) (hn : I64 n) (h0 : 0 ≤ n) : Calls Tryd.prog 40 #[.int .i64 n] w fun e w' => e = .returned (.agg #[.bool false, .int .i64 (cdig n 0), .int .i64 (cdig n 1), .int .i64 (cdig n 2), .int .i64 (cdig n 3), .int .i64 (cdig n 4), .int .i64 (cdig n 5), .int .i64 (cdig n 6), .int .i64 (cdig n 7)]) ∧ Below w.heap.size w w' := by
  have h := of_ex n w hn
  rw [decide_eq_false (show ¬ n < 0 by omega), show (n.natAbs : Int) = n by omega] at h
  exact h
theorem times_p (A B : Int) (w : World) (hA : Rep (cdig A) A) (hB : Rep (cdig B) B) (hA1 : A < 18446744073709551616) (hB1 : B < 18446744073709551616) :
    Calls Tryd.prog 50 #[.agg #[.bool false, .int .i64 (cdig A 0), .int .i64 (cdig A 1), .int .i64 (cdig A 2), .int .i64 (cdig A 3), .int .i64 (cdig A 4), .int .i64 (cdig A 5), .int .i64 (cdig A 6), .int .i64 (cdig A 7)], .agg #[.bool false, .int .i64 (cdig B 0), .int .i64 (cdig B 1), .int .i64 (cdig B 2), .int .i64 (cdig B 3), .int .i64 (cdig B 4), .int .i64 (cdig B 5), .int .i64 (cdig B 6), .int .i64 (cdig B 7)]] w fun e w' => e = .returned (.agg #[.bool false, .int .i64 (cdig (A * B) 0), .int .i64 (cdig (A * B) 1), .int .i64 (cdig (A * B) 2), .int .i64 (cdig (A * B) 3), .int .i64 (cdig (A * B) 4), .int .i64 (cdig (A * B) 5), .int .i64 (cdig (A * B) 6), .int .i64 (cdig (A * B) 7)]) ∧ Below w.heap.size w w' :=
  times_ex false false A B w hA hB hA1 hB1
theorem over_ex (ma mb : Bool) (A B : Int) (w : World) (hA : Rep (cdig A) A) (hB : Rep (cdig B) B) (hB0 : 0 < B) (hB1 : B < 18446744073709551616) :
    Calls Tryd.prog 47 #[.agg #[.bool ma, .int .i64 (cdig A 0), .int .i64 (cdig A 1), .int .i64 (cdig A 2), .int .i64 (cdig A 3), .int .i64 (cdig A 4), .int .i64 (cdig A 5), .int .i64 (cdig A 6), .int .i64 (cdig A 7)], .agg #[.bool mb, .int .i64 (cdig B 0), .int .i64 (cdig B 1), .int .i64 (cdig B 2), .int .i64 (cdig B 3), .int .i64 (cdig B 4), .int .i64 (cdig B 5), .int .i64 (cdig B 6), .int .i64 (cdig B 7)]] w fun e w' => e = .returned (.agg #[.bool (!(ma == mb)), .int .i64 (cdig (A / B) 0), .int .i64 (cdig (A / B) 1), .int .i64 (cdig (A / B) 2), .int .i64 (cdig (A / B) 3), .int .i64 (cdig (A / B) 4), .int .i64 (cdig (A / B) 5), .int .i64 (cdig (A / B) 6), .int .i64 (cdig (A / B) 7)]) ∧ Below w.heap.size w w' :=
  over_calls ma mb A B w hA hB hB0 hB1
theorem radd_eq (a b : Int) (ha : In64 a) (hb : In64 b) : PFixWorks.tiltyardref03_Add.f 1 a b = some (addF a b) := by
  obtain ⟨a1, a2⟩ := ha
  obtain ⟨b1, b2⟩ := hb
  unfold PFixWorks.tiltyardref03_Add.f PFixWorks.tiltyardref03_Add.j0 addF sat wrap64
  by_cases h1 : b > 0 <;> by_cases h2 : b < 0 <;> simp [h1, h2] <;> (repeat' split) <;> first | omega | (simp; done) | (simp; omega) | (simp at *; omega)
theorem rsub_eq (a b : Int) (ha : In64 a) (hb : In64 b) : PFixWorks.tiltyardref03_Sub.f 1 a b = some (subF a b) := by
  obtain ⟨a1, a2⟩ := ha
  obtain ⟨b1, b2⟩ := hb
  unfold PFixWorks.tiltyardref03_Sub.f PFixWorks.tiltyardref03_Sub.j0 subF sat wrap64
  by_cases h1 : b > 0 <;> by_cases h2 : b < 0 <;> simp [h1, h2] <;> (repeat' split) <;> first | omega | (simp; done) | (simp; omega) | (simp at *; omega)
theorem rAdd_calls (a b : Int) (w : World) (ha : In64 a) (hb : In64 b) : Calls Tryd.prog 23 #[.int .i64 a, .int .i64 b] w fun e w' => e = .returned (.int .i64 (addF a b)) ∧ ∃ n, w' = w.drewN n :=
  (PFixWorks.tiltyardref03_Add.calls 1 a b _ w (radd_eq a b ha hb)).mono fun _ _ h => ⟨h.1, h.2.out⟩
theorem rSub_calls (a b : Int) (w : World) (ha : In64 a) (hb : In64 b) : Calls Tryd.prog 24 #[.int .i64 a, .int .i64 b] w fun e w' => e = .returned (.int .i64 (subF a b)) ∧ ∃ n, w' = w.drewN n :=
  (PFixWorks.tiltyardref03_Sub.calls 1 a b _ w (rsub_eq a b ha hb)).mono fun _ _ h => ⟨h.1, h.2.out⟩
set_option maxHeartbeats 4000000 in
set_option maxRecDepth 100000 in
theorem rfrom_calls (a : Int) (w : World) (ha : I64 a) :
    Calls Tryd.prog 27 #[.int .i64 a] w
      fun e w' => e = .returned (.int .i64 (fromF a)) ∧ Below w.heap.size w w' := by
  have HB := Aside0.mk (Below.refl w.heap.size w)
  obtain ⟨r1, r2⟩ := rep_abs ha
  have h1 := ha.1; have h2 := ha.2
  have r3 : Rep (cdig ((a.natAbs : Int) * 4294967296)) ((a.natAbs : Int) * 4294967296) := rep_cdig (by omega) (by omega)
  have e1 := fromF_rep a
  have E1 := Lib.hid e1; clear e1
  have hst := fun W => stop_ex (decide (a < 0)) ((a.natAbs : Int) * 4294967296) W r3
  rw [← E1.out] at hst
  go_enter Tryd.func27, Tryd.ntmps27
  go_wp2_with fail
  ((with_reducible refine (of_ex _ _ ha).mono ?_); rintro e_ W1 ⟨rfl, hb_⟩)
  have n_ := Aside0.mk (below_step HB.out hb_); clear HB; have HB := n_; clear n_
  clear hb_
  go_wp2_with fail
  ((with_reducible refine (shiftu_ex (decide (a < 0)) (a.natAbs : Int) _ r1 (by omega)).mono ?_); rintro e_ W2 ⟨rfl, hb_⟩)
  have n_ := Aside0.mk (below_step HB.out hb_); clear HB; have HB := n_; clear n_
  clear hb_
  go_wp2_with fail
  ((with_reducible refine (hst _).mono ?_); rintro e_ W3 ⟨rfl, hb_⟩)
  have n_ := Aside0.mk (below_step HB.out hb_); clear HB; have HB := n_; clear n_
  clear hb_
  go_wp2_with fail
  go_wp2
  go_ret
  exact ⟨rfl, (by repeat (first | (with_reducible first | exact HB.out | apply below_alloc | apply pw_below_drewN | apply below_drew1) | exact HB.out))⟩
set_option maxHeartbeats 4000000 in
set_option maxRecDepth 100000 in
theorem rto_calls (a : Int) (w : World) (ha : I64 a) :
    Calls Tryd.prog 29 #[.int .i64 a] w
      fun e w' => e = .returned (.int .i64 (toF a)) ∧ Below w.heap.size w w' := by
  have HB := Aside0.mk (Below.refl w.heap.size w)
  obtain ⟨r1, r2⟩ := rep_abs ha
  have h1 := ha.1; have h2 := ha.2
  have r3 : Rep (cdig ((a.natAbs : Int) / 4294967296)) ((a.natAbs : Int) / 4294967296) := rep_cdig (by omega) (by omega)
  have e1 := toF_rep a
  have E1 := Lib.hid e1; clear e1
  have hst := fun W => stop_ex (decide (a < 0)) ((a.natAbs : Int) / 4294967296) W r3
  rw [← E1.out] at hst
  go_enter Tryd.func29, Tryd.ntmps29
  go_wp2_with fail
  ((with_reducible refine (of_ex _ _ ha).mono ?_); rintro e_ W1 ⟨rfl, hb_⟩)
  have n_ := Aside0.mk (below_step HB.out hb_); clear HB; have HB := n_; clear n_
  clear hb_
  go_wp2_with fail
  ((with_reducible refine (shift_ex (decide (a < 0)) (a.natAbs : Int) _ r1).mono ?_); rintro e_ W2 ⟨rfl, hb_⟩)
  have n_ := Aside0.mk (below_step HB.out hb_); clear HB; have HB := n_; clear n_
  clear hb_
  go_wp2_with fail
  ((with_reducible refine (hst _).mono ?_); rintro e_ W3 ⟨rfl, hb_⟩)
  have n_ := Aside0.mk (below_step HB.out hb_); clear HB; have HB := n_; clear n_
  clear hb_
  go_wp2_with fail
  go_wp2
  go_ret
  exact ⟨rfl, (by repeat (first | (with_reducible first | exact HB.out | apply below_alloc | apply pw_below_drewN | apply below_drew1) | exact HB.out))⟩
set_option maxHeartbeats 4000000 in
set_option maxRecDepth 100000 in
theorem rdiv_calls (a b : Int) (w : World) (ha : I64 a) (hb : I64 b) (hb0 : b ≠ 0) :
    Calls Tryd.prog 21 #[.int .i64 a, .int .i64 b] w
      fun e w' => e = .returned (.tuple #[.int .i64 (divF a b), .int .i64 0]) ∧ Below w.heap.size w w' := by
  have HB := Aside0.mk (Below.refl w.heap.size w)
  obtain ⟨r1, r2⟩ := rep_abs ha; obtain ⟨q1, q2⟩ := rep_abs hb
  have h1 := ha.1; have h2 := ha.2
  have r3 : Rep (cdig ((a.natAbs : Int) * 4294967296)) ((a.natAbs : Int) * 4294967296) := rep_cdig (by omega) (by omega)
  have hq0 : 0 < (b.natAbs : Int) := by omega
  have hle := Int.ediv_le_self (b.natAbs : Int) (show 0 ≤ (a.natAbs : Int) * 4294967296 by omega)
  have hge := Int.ediv_nonneg (show 0 ≤ (a.natAbs : Int) * 4294967296 by omega) (show 0 ≤ (b.natAbs : Int) by omega)
  have r4 : Rep (cdig ((a.natAbs : Int) * 4294967296 / (b.natAbs : Int))) ((a.natAbs : Int) * 4294967296 / (b.natAbs : Int)) := rep_cdig hge (by omega)
  have e1 := divF_rep a b
  have E1 := Lib.hid e1; clear e1 hle hge
  have d0 : (b == 0) = false := by simpa using hb0
  have hst := fun W => stop_ex (!(decide (a < 0) == decide (b < 0))) ((a.natAbs : Int) * 4294967296 / (b.natAbs : Int)) W r4
  rw [← E1.out] at hst
  go_enter Tryd.func21, Tryd.ntmps21
  go_wp2_with fail
  ((with_reducible refine (of_ex _ _ ha).mono ?_); rintro e_ W1 ⟨rfl, hb_⟩)
  have n_ := Aside0.mk (below_step HB.out hb_); clear HB; have HB := n_; clear n_
  clear hb_
  go_wp2_with fail
  ((with_reducible refine (shiftu_ex (decide (a < 0)) (a.natAbs : Int) _ r1 (by omega)).mono ?_); rintro e_ W2 ⟨rfl, hb_⟩)
  have n_ := Aside0.mk (below_step HB.out hb_); clear HB; have HB := n_; clear n_
  clear hb_
  go_wp2_with fail
  ((with_reducible refine (of_ex _ _ hb).mono ?_); rintro e_ W3 ⟨rfl, hb_⟩)
  have n_ := Aside0.mk (below_step HB.out hb_); clear HB; have HB := n_; clear n_
  clear hb_
  go_wp2_with fail
  ((with_reducible refine (over_ex (decide (a < 0)) (decide (b < 0)) ((a.natAbs : Int) * 4294967296) (b.natAbs : Int) _ r3 q1 hq0 q2).mono ?_); rintro e_ W4 ⟨rfl, hb_⟩)
  have n_ := Aside0.mk (below_step HB.out hb_); clear HB; have HB := n_; clear n_
  clear hb_
  go_wp2_with fail
  ((with_reducible refine (hst _).mono ?_); rintro e_ W5 ⟨rfl, hb_⟩)
  have n_ := Aside0.mk (below_step HB.out hb_); clear HB; have HB := n_; clear n_
  clear hb_
  go_wp2_with fail
  go_wp2
  go_ret2
  exact ⟨rfl, (by repeat (first | (with_reducible first | exact HB.out | apply below_alloc | apply pw_below_drewN | apply below_drew1) | exact HB.out))⟩
theorem rdiv_zero (a : Int) (w : World) : Calls Tryd.prog 21 #[.int .i64 a, .int .i64 0] w fun e w' => e = .returned (.tuple #[.int .i64 0, .int .i64 30]) ∧ Below w.heap.size w w' := by
  go_enter Tryd.func21, Tryd.ntmps21
  go_wp2
  go_ret2
  exact ⟨rfl, Below.refl _ _⟩
theorem rsqrt_neg (a : Int) (w : World) (h : a < 0) : Calls Tryd.prog 22 #[.int .i64 a] w fun e w' => e = .returned (.tuple #[.int .i64 0, .int .i64 1]) ∧ Below w.heap.size w w' := by
  go_enter Tryd.func22, Tryd.ntmps22
  go_wp2
  go_ret2
  exact ⟨rfl, Below.refl _ _⟩
theorem cmp_le {a b : Int} (h : a ≤ b) : cmpI a b ≤ 0 := by unfold cmpI; (repeat' split) <;> omega
theorem cmp_gt {a b : Int} (h : b < a) : 0 < cmpI a b := by unfold cmpI; (repeat' split) <;> omega
set_option maxHeartbeats 8000000 in
set_option maxRecDepth 100000 in
theorem rsqrt_calls (a n0 : Int) (w : World) (h0 : 0 ≤ a) (h1 : a ≤ 9223372036854775807) (hr0 : Root a n0) :
    Calls Tryd.prog 22 #[.int .i64 a] w
      fun e w' => e = .returned (.tuple #[.int .i64 n0, .int .i64 0]) ∧ Below w.heap.size w w' := by
  have HB := Aside0.mk (Below.refl w.heap.size w)
  have ha : I64 a := ⟨by omega, h1⟩
  obtain ⟨A, hA⟩ : ∃ A, A = a * 4294967296 := ⟨_, rfl⟩
  have r1 : Rep (cdig a) a := rep_cdig h0 (by omega)
  have r3 : Rep (cdig A) A := rep_cdig (by omega) (by omega)
  have hs0 := sqr_start (A := A) (by omega) (by omega)
  have HS0 := Aside0.mk hs0; clear hs0
  have hsh := fun W => shiftu_ex false a W r1 (by omega)
  rw [← hA] at hsh
  have HR0 := Aside0.mk hr0; clear hr0
  have HAA := Lib.hid hA; clear hA
  go_enter Tryd.func22, Tryd.ntmps22
  go_wp2_with fail
  ((with_reducible refine (of_p _ _ ha h0).mono ?_); rintro e_ W1 ⟨rfl, hb_⟩)
  have n_ := Aside0.mk (below_step HB.out hb_); clear HB; have HB := n_; clear n_
  clear hb_
  go_wp2_with fail
  ((with_reducible refine (hsh _).mono ?_); rintro e_ W2 ⟨rfl, hb_⟩)
  have n_ := Aside0.mk (below_step HB.out hb_); clear HB; have HB := n_; clear n_
  clear hb_
  clear hsh
  go_wp2_with (first | ((with_reducible refine gate_dst (N := 4) rfl ?_); refine box_event ?hg (N := 4) ?hd (cs := #[.bool false, .int .i64 0, .int .i64 0, .int .i64 0, .int .i64 0, .int .i64 0, .int .i64 0, .int .i64 0, .int .i64 0]) (t := 60) ?hr ?_; (case hd => rfl); (case hg => rfl); (case hr => first | (go_simp; done) | (go_simp; rfl)); intro g4 hg_ W3 hbox_ hb_; have GEg4 := Aside0.mk ((by rw [hg_]; exact (below_size HB.out)) : w.heap.size ≤ g4); clear hg_; have n_ := Aside0.mk (below_step HB.out hb_); clear HB; have HB := n_; clear n_; have BKg4 := Aside0.mk hbox_; clear hbox_ hb_; have hcg4_0 : W3.cell? ⟨g4, 0, none⟩ = some (.bool false) := (blk_cell BKg4.out 0).trans rfl; have hfg4_0 := blk_frozen BKg4.out 0; have hcg4_1 : W3.cell? ⟨g4, 1, none⟩ = some (.int .i64 0) := (blk_cell BKg4.out 1).trans rfl; have hfg4_1 := blk_frozen BKg4.out 1; have hcg4_2 : W3.cell? ⟨g4, 2, none⟩ = some (.int .i64 0) := (blk_cell BKg4.out 2).trans rfl; have hfg4_2 := blk_frozen BKg4.out 2; have hcg4_3 : W3.cell? ⟨g4, 3, none⟩ = some (.int .i64 0) := (blk_cell BKg4.out 3).trans rfl; have hfg4_3 := blk_frozen BKg4.out 3; have hcg4_4 : W3.cell? ⟨g4, 4, none⟩ = some (.int .i64 0) := (blk_cell BKg4.out 4).trans rfl; have hfg4_4 := blk_frozen BKg4.out 4; have hcg4_5 : W3.cell? ⟨g4, 5, none⟩ = some (.int .i64 0) := (blk_cell BKg4.out 5).trans rfl; have hfg4_5 := blk_frozen BKg4.out 5; have hcg4_6 : W3.cell? ⟨g4, 6, none⟩ = some (.int .i64 0) := (blk_cell BKg4.out 6).trans rfl; have hfg4_6 := blk_frozen BKg4.out 6; have hcg4_7 : W3.cell? ⟨g4, 7, none⟩ = some (.int .i64 0) := (blk_cell BKg4.out 7).trans rfl; have hfg4_7 := blk_frozen BKg4.out 7; have hcg4_8 : W3.cell? ⟨g4, 8, none⟩ = some (.int .i64 0) := (blk_cell BKg4.out 8).trans rfl; have hfg4_8 := blk_frozen BKg4.out 8))
  have n_ : Aside0 ((((((((((W3.setCell ⟨g4, 0, none⟩ (.bool false)).setCell ⟨g4, 1, none⟩ (.int .i64 ((cdig A) 0))).setCell ⟨g4, 2, none⟩ (.int .i64 ((cdig A) 1))).setCell ⟨g4, 3, none⟩ (.int .i64 ((cdig A) 2))).setCell ⟨g4, 4, none⟩ (.int .i64 ((cdig A) 3))).setCell ⟨g4, 5, none⟩ (.int .i64 ((cdig A) 4))).setCell ⟨g4, 6, none⟩ (.int .i64 ((cdig A) 5))).setCell ⟨g4, 7, none⟩ (.int .i64 ((cdig A) 6))).setCell ⟨g4, 8, none⟩ (.int .i64 ((cdig A) 7))).heap[g4]? = some (.cells #[.bool false, .int .i64 ((cdig A) 0), .int .i64 ((cdig A) 1), .int .i64 ((cdig A) 2), .int .i64 ((cdig A) 3), .int .i64 ((cdig A) 4), .int .i64 ((cdig A) 5), .int .i64 ((cdig A) 6), .int .i64 ((cdig A) 7)] 60 (0, 0))) := ⟨by refine blk_put (cs := #[.bool false, .int .i64 ((cdig A) 0), .int .i64 ((cdig A) 1), .int .i64 ((cdig A) 2), .int .i64 ((cdig A) 3), .int .i64 ((cdig A) 4), .int .i64 ((cdig A) 5), .int .i64 ((cdig A) 6), .int .i64 0]) ?_ 8 _ rfl; refine blk_put (cs := #[.bool false, .int .i64 ((cdig A) 0), .int .i64 ((cdig A) 1), .int .i64 ((cdig A) 2), .int .i64 ((cdig A) 3), .int .i64 ((cdig A) 4), .int .i64 ((cdig A) 5), .int .i64 0, .int .i64 0]) ?_ 7 _ rfl; refine blk_put (cs := #[.bool false, .int .i64 ((cdig A) 0), .int .i64 ((cdig A) 1), .int .i64 ((cdig A) 2), .int .i64 ((cdig A) 3), .int .i64 ((cdig A) 4), .int .i64 0, .int .i64 0, .int .i64 0]) ?_ 6 _ rfl; refine blk_put (cs := #[.bool false, .int .i64 ((cdig A) 0), .int .i64 ((cdig A) 1), .int .i64 ((cdig A) 2), .int .i64 ((cdig A) 3), .int .i64 0, .int .i64 0, .int .i64 0, .int .i64 0]) ?_ 5 _ rfl; refine blk_put (cs := #[.bool false, .int .i64 ((cdig A) 0), .int .i64 ((cdig A) 1), .int .i64 ((cdig A) 2), .int .i64 0, .int .i64 0, .int .i64 0, .int .i64 0, .int .i64 0]) ?_ 4 _ rfl; refine blk_put (cs := #[.bool false, .int .i64 ((cdig A) 0), .int .i64 ((cdig A) 1), .int .i64 0, .int .i64 0, .int .i64 0, .int .i64 0, .int .i64 0, .int .i64 0]) ?_ 3 _ rfl; refine blk_put (cs := #[.bool false, .int .i64 ((cdig A) 0), .int .i64 0, .int .i64 0, .int .i64 0, .int .i64 0, .int .i64 0, .int .i64 0, .int .i64 0]) ?_ 2 _ rfl; refine blk_put (cs := #[.bool false, .int .i64 0, .int .i64 0, .int .i64 0, .int .i64 0, .int .i64 0, .int .i64 0, .int .i64 0, .int .i64 0]) ?_ 1 _ rfl; refine blk_put (cs := #[.bool false, .int .i64 0, .int .i64 0, .int .i64 0, .int .i64 0, .int .i64 0, .int .i64 0, .int .i64 0, .int .i64 0]) ?_ 0 _ rfl; exact BKg4.out⟩
  have b_ : Aside0 (Below w.heap.size w (((((((((W3.setCell ⟨g4, 0, none⟩ (.bool false)).setCell ⟨g4, 1, none⟩ (.int .i64 ((cdig A) 0))).setCell ⟨g4, 2, none⟩ (.int .i64 ((cdig A) 1))).setCell ⟨g4, 3, none⟩ (.int .i64 ((cdig A) 2))).setCell ⟨g4, 4, none⟩ (.int .i64 ((cdig A) 3))).setCell ⟨g4, 5, none⟩ (.int .i64 ((cdig A) 4))).setCell ⟨g4, 6, none⟩ (.int .i64 ((cdig A) 5))).setCell ⟨g4, 7, none⟩ (.int .i64 ((cdig A) 6))).setCell ⟨g4, 8, none⟩ (.int .i64 ((cdig A) 7)))) := ⟨(below_set (below_set (below_set (below_set (below_set (below_set (below_set (below_set (below_set HB.out GEg4.out) GEg4.out) GEg4.out) GEg4.out) GEg4.out) GEg4.out) GEg4.out) GEg4.out) GEg4.out)⟩
  clear BKg4 HB; have BKg4 := n_; have HB := b_; clear n_ b_
  clear hcg4_0 hfg4_0
  clear hcg4_1 hfg4_1
  clear hcg4_2 hfg4_2
  clear hcg4_3 hfg4_3
  clear hcg4_4 hfg4_4
  clear hcg4_5 hfg4_5
  clear hcg4_6 hfg4_6
  clear hcg4_7 hfg4_7
  clear hcg4_8 hfg4_8
  generalize (((((((((W3.setCell ⟨g4, 0, none⟩ (.bool false)).setCell ⟨g4, 1, none⟩ (.int .i64 ((cdig A) 0))).setCell ⟨g4, 2, none⟩ (.int .i64 ((cdig A) 1))).setCell ⟨g4, 3, none⟩ (.int .i64 ((cdig A) 2))).setCell ⟨g4, 4, none⟩ (.int .i64 ((cdig A) 3))).setCell ⟨g4, 5, none⟩ (.int .i64 ((cdig A) 4))).setCell ⟨g4, 6, none⟩ (.int .i64 ((cdig A) 5))).setCell ⟨g4, 7, none⟩ (.int .i64 ((cdig A) 6))).setCell ⟨g4, 8, none⟩ (.int .i64 ((cdig A) 7))) = W4 at *
  have hcg4_0 : W4.cell? ⟨g4, 0, none⟩ = some (.bool false) := (blk_cell BKg4.out 0).trans rfl
  have hfg4_0 := blk_frozen BKg4.out 0
  have hcg4_1 : W4.cell? ⟨g4, 1, none⟩ = some (.int .i64 ((cdig A) 0)) := (blk_cell BKg4.out 1).trans rfl
  have hfg4_1 := blk_frozen BKg4.out 1
  have hcg4_2 : W4.cell? ⟨g4, 2, none⟩ = some (.int .i64 ((cdig A) 1)) := (blk_cell BKg4.out 2).trans rfl
  have hfg4_2 := blk_frozen BKg4.out 2
  have hcg4_3 : W4.cell? ⟨g4, 3, none⟩ = some (.int .i64 ((cdig A) 2)) := (blk_cell BKg4.out 3).trans rfl
  have hfg4_3 := blk_frozen BKg4.out 3
  have hcg4_4 : W4.cell? ⟨g4, 4, none⟩ = some (.int .i64 ((cdig A) 3)) := (blk_cell BKg4.out 4).trans rfl
  have hfg4_4 := blk_frozen BKg4.out 4
  have hcg4_5 : W4.cell? ⟨g4, 5, none⟩ = some (.int .i64 ((cdig A) 4)) := (blk_cell BKg4.out 5).trans rfl
  have hfg4_5 := blk_frozen BKg4.out 5
  have hcg4_6 : W4.cell? ⟨g4, 6, none⟩ = some (.int .i64 ((cdig A) 5)) := (blk_cell BKg4.out 6).trans rfl
  have hfg4_6 := blk_frozen BKg4.out 6
  have hcg4_7 : W4.cell? ⟨g4, 7, none⟩ = some (.int .i64 ((cdig A) 6)) := (blk_cell BKg4.out 7).trans rfl
  have hfg4_7 := blk_frozen BKg4.out 7
  have hcg4_8 : W4.cell? ⟨g4, 8, none⟩ = some (.int .i64 ((cdig A) 7)) := (blk_cell BKg4.out 8).trans rfl
  have hfg4_8 := blk_frozen BKg4.out 8
  go_loopw [5, 6] (fun vn vi wr => ∃ (j : Nat) (n : Int), vn = .int .i64 n ∧ vi = .int .i64 ((j : Int) - 1) ∧ Aside0 (j ≤ 49) ∧ Aside0 (SqR A n j) ∧ Aside0 (wr.heap[g4]? = some (.cells (bigA false (cdig A)) 60 (0, 0))) ∧ Aside0 (Below w.heap.size w wr)) (fun _ vi _ => (intOf vi + 1).toNat)
  case atStart => exact ⟨49, 0, rfl, rfl, ⟨by omega⟩, HS0, BKg4, HB⟩
  case round =>
    clear BKg4 HB HS0 hcg4_0 hfg4_0 hcg4_1 hfg4_1 hcg4_2 hfg4_2 hcg4_3 hfg4_3 hcg4_4 hfg4_4 hcg4_5 hfg4_5 hcg4_6 hfg4_6 hcg4_7 hfg4_7 hcg4_8 hfg4_8
    obtain ⟨j, n, rfl, rfl, Hj, HR, BKg4, HB⟩ := hrel
    have hj := Hj.out; have hN0 := HR.out.1; have hN1 := HR.out.2.1
    cases j with
    | zero =>
      rw [show (((0 : Nat) : Int) - 1) = -1 from rfl]
      go_wp2
      go_ret2
      have hnn : n = n0 := root_one (by have := HR.out; rw [HAA.out] at this; exact sqr_end this) HR0.out
      subst hnn
      exact ⟨rfl, HB.out⟩
    | succ k =>
      rw [show (((k + 1 : Nat) : Int) - 1) = (k : Int) from by omega]
      have hb0 := b2_pos k
      have hb1 := b2_le (show k ≤ 48 by omega); rw [show b2 48 = 281474976710656 by decide] at hb1
      obtain ⟨V, hV⟩ : ∃ V, V = n + b2 k := ⟨_, rfl⟩
      have hV0 : 0 ≤ V := by omega
      have hV1 : V < 844424930131968 := by omega
      have hVI : I64 V := ⟨by omega, by omega⟩
      have hw : wrap64 (n + wrap64 (2 ^ k)) = V := by
        have e : (2 : Int) ^ k = b2 k := by unfold b2; simp
        rw [e, hV]; unfold wrap64; omega
      have HW := Lib.hid hw; have HV := Lib.hid hV; clear hw hV
      have rV : Rep (cdig V) V := rep_cdig hV0 (by omega)
      have hVV := mul_lt V V 844424930131968 ⟨hV0, by omega⟩ ⟨hV0, by omega⟩
      have rVV : Rep (cdig (V * V)) (V * V) := rep_cdig hVV.1 (by omega)
      have HVV := Aside0.mk hVV; clear hVV
      go_wp2
      rw [HW.out]
      have hcase : (V * V ≤ A ∧ cmpI (V * V) A ≤ 0) ∨ (A < V * V ∧ 0 < cmpI (V * V) A) := by
        rcases Int.lt_or_le A (V * V) with c | c
        · exact .inr ⟨c, cmp_gt c⟩
        · exact .inl ⟨c, cmp_le c⟩
      have hq0 : ∀ u : Aft wr, u.w.cell? ⟨g4, 0, none⟩ = some (.bool false) := fun u => (blk_cell (blk_below BKg4.out u.below) 0).trans rfl
      have hq1 : ∀ u : Aft wr, u.w.cell? ⟨g4, 1, none⟩ = some (.int .i64 ((cdig A) 0)) := fun u => (blk_cell (blk_below BKg4.out u.below) 1).trans rfl
      have hq2 : ∀ u : Aft wr, u.w.cell? ⟨g4, 2, none⟩ = some (.int .i64 ((cdig A) 1)) := fun u => (blk_cell (blk_below BKg4.out u.below) 2).trans rfl
      have hq3 : ∀ u : Aft wr, u.w.cell? ⟨g4, 3, none⟩ = some (.int .i64 ((cdig A) 2)) := fun u => (blk_cell (blk_below BKg4.out u.below) 3).trans rfl
      have hq4 : ∀ u : Aft wr, u.w.cell? ⟨g4, 4, none⟩ = some (.int .i64 ((cdig A) 3)) := fun u => (blk_cell (blk_below BKg4.out u.below) 4).trans rfl
      have hq5 : ∀ u : Aft wr, u.w.cell? ⟨g4, 5, none⟩ = some (.int .i64 ((cdig A) 4)) := fun u => (blk_cell (blk_below BKg4.out u.below) 5).trans rfl
      have hq6 : ∀ u : Aft wr, u.w.cell? ⟨g4, 6, none⟩ = some (.int .i64 ((cdig A) 5)) := fun u => (blk_cell (blk_below BKg4.out u.below) 6).trans rfl
      have hq7 : ∀ u : Aft wr, u.w.cell? ⟨g4, 7, none⟩ = some (.int .i64 ((cdig A) 6)) := fun u => (blk_cell (blk_below BKg4.out u.below) 7).trans rfl
      have hq8 : ∀ u : Aft wr, u.w.cell? ⟨g4, 8, none⟩ = some (.int .i64 ((cdig A) 7)) := fun u => (blk_cell (blk_below BKg4.out u.below) 8).trans rfl
      refine wp_region_aft (by kernel_rfl) (by kernel_rfl) ?_
      repeat (go_big_quiet_step (fail))
      go_big_quiet_step (refine aft_call (fun w => of_p V w hVI hV0))
      repeat (go_big_quiet_step (fail))
      go_big_quiet_step (refine aft_call (fun w => of_p V w hVI hV0))
      repeat (go_big_quiet_step (fail))
      go_big_quiet_step (refine aft_call (fun w => times_p V V w rV rV (by omega) (by omega)))
      repeat (go_big_quiet_step (fail))
      go_big_quiet_step (refine aft_call (fun w => compare_ex false false (V * V) A w rVV r3))
      repeat (go_big_quiet_step (fail))
      refine wpQuiet_nil ?_
      intro WN hb_
      clear hq0 hq1 hq2 hq3 hq4 hq5 hq6 hq7 hq8
      have n_ := Aside0.mk (blk_below BKg4.out hb_); clear BKg4; have BKg4 := n_; clear n_
      have n_ := Aside0.mk (below_step HB.out hb_); clear HB; have HB := n_; clear n_ hb_
      rcases hcase with ⟨c1, c2⟩ | ⟨c1, c2⟩
      · go_wp2
        exact ⟨⟨k, V, rfl, rfl, ⟨by omega⟩, ⟨by rw [HV.out]; exact sqr_up (by omega) HR.out (by rw [← HV.out]; exact c1)⟩, BKg4, HB⟩, by simp [intOf]⟩
      · go_wp2
        exact ⟨⟨k, n, rfl, rfl, ⟨by omega⟩, ⟨sqr_stay HR.out (by rw [← HV.out]; omega)⟩, BKg4, HB⟩, by simp [intOf]⟩
end Go.Proofs.YtcnibfancjofhaaDoor
